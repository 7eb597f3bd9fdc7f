/-
  Chapter 25: options laid, walked.
-/
import Derived.Test.YtmigbcoobbcahaaOpt1
import Derived.Test.YtmigbcoobbcahaaZeros
import Derived.Test.YtmigbcoobbcahaaOctet3
import Derived.Test.YtmigbcoobbcahaaCarry
namespace Go.Proofs.Ytmigbcoobbcahaa
open Go.RowKit Go.Sort
set_option linter.unusedVariables false

theorem cG {w a w' : World} {G : Nat} {ob : Obj} (h : Hid (w.heap[G]? = some ob)) (hu : Below w.heap.size w a) (hb : Below a.heap.size a w') : Hid (w'.heap[G]? = some ob) :=
  Lib.hid ((hb.block G (Nat.lt_of_lt_of_le (lt_of_block h.out) hu.size)).trans ((hu.block G (lt_of_block h.out)).trans h.out))
theorem cG1 {w w' : World} {G : Nat} {ob : Obj} (h : Hid (w.heap[G]? = some ob)) (hE : Below w.heap.size w w') : Hid (w'.heap[G]? = some ob) := Lib.hid ((hE.block G (lt_of_block h.out)).trans h.out)
theorem oc0 {w : World} {g : Nat} {o : OptV} {T : TypeId} (h : w.heap[g]? = some (.cells #[.int .i64 o.code, .slice o.ad o.n o.c] T (0, 0))) : w.cell? ⟨g, 0, none⟩ = some (.int .i64 o.code) := by simp [World.cell?, h]
theorem oc1 {w : World} {g : Nat} {o : OptV} {T : TypeId} (h : w.heap[g]? = some (.cells #[.int .i64 o.code, .slice o.ad o.n o.c] T (0, 0))) : w.cell? ⟨g, 1, none⟩ = some (.slice o.ad o.n o.c) := by simp [World.cell?, h]
/-- an option laid as a variable -/
theorem wpL_newO {P : Program} {w : World} {ops : Array Oper} {rest : List Oper} {o1 o2 : Oper} {a : Act} {Q : Exit → Act → World → Prop} (o : OptV) (hg1 : o1.guard = none) (hg2 : o2.guard = none) (T : TypeId) (ho1 : o1.op = .alloc T) (x y : Operand) (ho2 : o2.op = .store T x y)
    (zs : Array Value) (hi : (P.info? T).map (fun i => (i.zero, i.size)) = some (some (.agg zs), 2)) (hz : zs.size = 2)
    (hx : ∀ p, (a.put o1.dst p).eval x = p) (hy : ∀ p, (a.put o1.dst p).eval y = .agg #[.int .i64 o.code, .slice o.ad o.n o.c])
    (h : ∀ w1, w1.heap[w.heap.size]? = some (.cells #[.int .i64 o.code, .slice o.ad o.n o.c] T (0, 0)) → Below w.heap.size w w1 → wpList P ops Q rest ((a.put o1.dst (.pointer (some ⟨w.heap.size, 0, none⟩))).put o2.dst undef) w1) :
    wpList P ops Q (o1 :: o2 :: rest) a w :=
  wpL_new hg1 hg2 T ho1 x y ho2 #[.int .i64 o.code, .slice o.ad o.n o.c] zs hi hz (ocell_all o) hx hy (h _ (heap_alloc_last w _) ((Below.refl _ _).alloc (Nat.le_refl _) _))

theorem putO_take (big : Bool) (l : List OV) (k : Nat) (h : k < l.length) : putO big (l.take (k + 1)) = putO big (l.take k) ++ putL l[k].1.toNat 2 big ++ putL l[k].2.length 2 big ++ padL l[k].2 := by
  rw [List.take_add_one, List.getElem?_eq_getElem h, Option.toList_some, putO_append, putO_one]
  simp only [optB, hdB, List.append_assoc]

set_option maxRecDepth 100000 in
set_option maxHeartbeats 2000000 in
theorem optPut_any (ad : Option Addr) (n c : Nat) (os : List OptV) (big : Bool) (w : World) (hs : Ops w ad n c os) (hsz : sizeO (vals os) + 4 ≤ 140737488351232) :
    Calls Try.prog 11 #[.slice ad n c, .bool big] w fun e w' => Below w.heap.size w w' ∧
      ((wrongO (vals os) ≠ 0 ∧ e = .returned (.tuple #[.slice none 0 0, .int .i64 (wrongO (vals os))])) ∨
       (wrongO (vals os) = 0 ∧ ∃ ad' c', e = .returned (.tuple #[.slice ad' (putAll big (vals os)).length c', .int .i64 0]) ∧ w'.ownsRow w.heap.size 5 1 (.slice ad' (putAll big (vals os)).length c') (putAll big (vals os)).length (BV (putAll big (vals os))))) := by
  have hn := hs.len
  have hle := hs.le
  have HS := Lib.hid hs
  have HI : Hid ((Try.prog.info? 43).map (·.size) = some 2) := Lib.hid (by kernel_rfl)
  obtain ⟨X, hX⟩ : ∃ X, X = wrongO (vals os) := ⟨_, rfl⟩
  have HX := Lib.hid (show X = wrongO ((vals os).drop 0) by rw [hX, List.drop_zero])
  rw [← hX]
  have HN := Lib.hid hn
  clear hs hX hn
  go_enter Try.func11, Try.ntmps11
  go_wp2_with fail
  go_loopw [6, 11] (fun v i wr => ∃ (k : Nat) (ad' : Option Addr) (n' c' : Nat), k ≤ n ∧ i = .int .i64 k ∧ v = .slice ad' n' c' ∧ n' = sizeO ((vals os).take k) ∧ wr.ownsRow w.heap.size 5 1 (.slice ad' n' c') n' (BV (putO big ((vals os).take k))) ∧ Below w.heap.size w wr ∧ Hid (X = wrongO ((vals os).drop k))) (fun _ i _ => n - (intOf i).toNat)
  case atStart => exact ⟨0, none, 0, 0, by omega, rfl, rfl, rfl, World.ownsRow_nil _ _ _ _, Below.refl _ _, HX⟩
  case round =>
    obtain ⟨k, ad1, n1, c1, hk, rfl, rfl, hn1, ho, hb, HX1⟩ := hrel
    have HO := Lib.hid ho
    have HB := Lib.hid hb
    have hn := HN.out
    by_cases hlt : k < n
    · obtain ⟨b, off, rfl, hbl, hat⟩ := (HS.out.below hb).at (j := k) (by omega)
      obtain ⟨q1, q2, hbs⟩ := hat k (by omega)
      have hon := hbs.len
      have hol := hbs.le
      obtain ⟨o, hoe⟩ : ∃ o, o = os[k]'(by omega) := ⟨_, rfl⟩
      rw [← hoe] at q1 q2 hon hol hbs
      have hkl : k < (vals os).length := by rw [vals_length]; omega
      have hval : (vals os)[k] = (o.code, o.l) := by rw [vals_get _ _ (by omega), ← hoe]; rfl
      have HD : Hid (X = if o.code < 1 ∨ 65535 < o.code then 1 else if 65535 < o.n then 4 else wrongO ((vals os).drop (k + 1))) := Lib.hid (by
        rw [HX1.out, List.drop_eq_getElem_cons hkl, wrongO, hval, hon])
      have HP := Lib.hid (putO_take big (vals os) k hkl)
      rw [hval] at HP
      dsimp only at HP
      have hz2 : n1 + (4 + o.n + padN o.n) = sizeO ((vals os).take (k + 1)) := by
        rw [sizeO_take _ _ hkl, hval, hn1, hon]
        rfl
      have hz3 : n1 + (4 + o.n + padN o.n) ≤ 140737488351228 := by
        have := sizeO_take_le (vals os) (k + 1)
        omega
      have HZ2 := Lib.hid hz2
      have HR := Lib.hid (ocell_range q1 q2)
      have HBS : Hid (Bs w o.ad o.n o.c o.l) := Lib.hid (by
        obtain ⟨_, _, _, _, hat0⟩ := HS.out.at (j := k) (by omega)
        rw [hoe]
        exact (hat0 k (by omega)).2.2)
      have hne : ∀ x, ad1 = some x → x.block ≠ wr.heap.size := by
        intro x hx e
        rcases own_form ho with ⟨h, _⟩ | ⟨g, h, h2, h3⟩
        · rw [h] at hx; cases hx
        · rw [h] at hx; cases hx
          have e2 : g = wr.heap.size := e
          omega
      have HNE := Lib.hid hne
      have HON := Lib.hid hon
      clear hat hoe HX1 HX hz2 q1 q2 hb ho hbs hkl hval hne hn1 hon hn
      by_cases h1 : o.code < 1
      · have HE := Lib.hid (HD.out.trans (if_pos (.inl h1)))
        go_wp2_with (first
          | ((with_reducible show wpList _ _ _ (⟨some 14, _, _, _, _, _⟩ :: _) _ _); go_must (refine wpL_load rfl 43 (.tmp 13) rfl b (off + k * 2) rfl o.cells _ HR.out Try.underlying43 rfl HI.out ?_); simp only [Act.put, List.setIfInBounds_toArray, List.set_cons_zero, List.set_cons_succ])
          | ((with_reducible show wpList _ _ _ (⟨some 8, _, _, _, _, _⟩ :: _) _ _); go_must (refine wpL_newO o rfl rfl 43 rfl (.tmp 8) (.tmp 14) rfl #[.int .i64 0, .slice none 0 0] (by kernel_rfl) rfl (fun _ => rfl) (fun _ => rfl) ?_); intro w1 hg1 hb1; have q0 := oc0 hg1; have q1 := oc1 hg1; have hE__ := cU HB (by repeat (first | exact Below.refl _ _ | refine Below.drew ?_ | refine Below.trans ?_ (below_drewN _ _ _) | refine Below.alloc ?_ (by first | exact Nat.le_refl _ | (simp; done) | (simp; omega)) _)) hb1; (first | replace HB := cK1 HB hE__); clear hE__; clear hg1 hb1; simp only [Act.put, List.setIfInBounds_toArray, List.set_cons_zero, List.set_cons_succ]))
        go_ret2
        exact ⟨HB.out, .inl ⟨by rw [HE.out]; omega, by rw [HE.out]; rfl⟩⟩
      · by_cases h2 : (65535 : Int) < o.code
        · have HE := Lib.hid (HD.out.trans (if_pos (.inr h2)))
          go_wp2_with (first
            | ((with_reducible show wpList _ _ _ (⟨some 14, _, _, _, _, _⟩ :: _) _ _); go_must (refine wpL_load rfl 43 (.tmp 13) rfl b (off + k * 2) rfl o.cells _ HR.out Try.underlying43 rfl HI.out ?_); simp only [Act.put, List.setIfInBounds_toArray, List.set_cons_zero, List.set_cons_succ])
            | ((with_reducible show wpList _ _ _ (⟨some 8, _, _, _, _, _⟩ :: _) _ _); go_must (refine wpL_newO o rfl rfl 43 rfl (.tmp 8) (.tmp 14) rfl #[.int .i64 0, .slice none 0 0] (by kernel_rfl) rfl (fun _ => rfl) (fun _ => rfl) ?_); intro w1 hg1 hb1; have q0 := oc0 hg1; have q1 := oc1 hg1; have hE__ := cU HB (by repeat (first | exact Below.refl _ _ | refine Below.drew ?_ | refine Below.trans ?_ (below_drewN _ _ _) | refine Below.alloc ?_ (by first | exact Nat.le_refl _ | (simp; done) | (simp; omega)) _)) hb1; (first | replace HB := cK1 HB hE__); clear hE__; clear hg1 hb1; simp only [Act.put, List.setIfInBounds_toArray, List.set_cons_zero, List.set_cons_succ]))
          go_ret2
          exact ⟨HB.out, .inl ⟨by rw [HE.out]; omega, by rw [HE.out]; rfl⟩⟩
        · by_cases h3 : (65535 : Int) < o.n
          · have HE := Lib.hid ((HD.out.trans (if_neg (by omega))).trans (if_pos (by omega)))
            go_wp2_with (first
              | ((with_reducible show wpList _ _ _ (⟨some 14, _, _, _, _, _⟩ :: _) _ _); go_must (refine wpL_load rfl 43 (.tmp 13) rfl b (off + k * 2) rfl o.cells _ HR.out Try.underlying43 rfl HI.out ?_); simp only [Act.put, List.setIfInBounds_toArray, List.set_cons_zero, List.set_cons_succ])
              | ((with_reducible show wpList _ _ _ (⟨some 8, _, _, _, _, _⟩ :: _) _ _); go_must (refine wpL_newO o rfl rfl 43 rfl (.tmp 8) (.tmp 14) rfl #[.int .i64 0, .slice none 0 0] (by kernel_rfl) rfl (fun _ => rfl) (fun _ => rfl) ?_); intro w1 hg1 hb1; have q0 := oc0 hg1; have q1 := oc1 hg1; have hE__ := cU HB (by repeat (first | exact Below.refl _ _ | refine Below.drew ?_ | refine Below.trans ?_ (below_drewN _ _ _) | refine Below.alloc ?_ (by first | exact Nat.le_refl _ | (simp; done) | (simp; omega)) _)) hb1; (first | replace HB := cK1 HB hE__); clear hE__; clear hg1 hb1; simp only [Act.put, List.setIfInBounds_toArray, List.set_cons_zero, List.set_cons_succ]))
            go_ret2
            exact ⟨HB.out, .inl ⟨by rw [HE.out]; omega, by rw [HE.out]; rfl⟩⟩
          · have HE := Lib.hid ((HD.out.trans (if_neg (by omega))).trans (if_neg (by omega)))
            obtain ⟨l1, hl1⟩ : ∃ l, l = putL o.code.toNat 2 big := ⟨_, rfl⟩
            obtain ⟨l2, hl2⟩ : ∃ l, l = putL o.n 2 big := ⟨_, rfl⟩
            obtain ⟨l3, hl3⟩ : ∃ l, l = padL o.l := ⟨_, rfl⟩
            have g1 : l1.length = 2 := by rw [hl1, putL2_length]
            have g2 : l2.length = 2 := by rw [hl2, putL2_length]
            have g3 : l3.length = o.n + padN o.n := by rw [hl3, padL_length, HON.out]
            have HL1 := Lib.hid hl1
            have HL2 := Lib.hid hl2
            have HL3 := Lib.hid hl3
            have HP2 := Lib.hid (show putO big ((vals os).take (k + 1)) = putO big ((vals os).take k) ++ l1 ++ l2 ++ l3 by rw [HP.out, hl1, hl2, hl3, HON.out])
            clear hl1 hl2 hl3 HP HD
            go_wp2_with (first
              | ((with_reducible show wpList _ _ _ (⟨some 14, _, _, _, _, _⟩ :: _) _ _); go_must (refine wpL_load rfl 43 (.tmp 13) rfl b (off + k * 2) rfl o.cells _ HR.out Try.underlying43 rfl HI.out ?_); simp only [Act.put, List.setIfInBounds_toArray, List.set_cons_zero, List.set_cons_succ])
              | ((with_reducible show wpList _ _ _ (⟨some 8, _, _, _, _, _⟩ :: _) _ _); go_must (refine wpL_newO o rfl rfl 43 rfl (.tmp 8) (.tmp 14) rfl #[.int .i64 0, .slice none 0 0] (by kernel_rfl) rfl (fun _ => rfl) (fun _ => rfl) ?_); intro w1 hg1 hb1; have q0 := oc0 hg1; have q1 := oc1 hg1; have HG := Lib.hid hg1; have hE__ := cU HB (by repeat (first | exact Below.refl _ _ | refine Below.drew ?_ | refine Below.trans ?_ (below_drewN _ _ _) | refine Below.alloc ?_ (by first | exact Nat.le_refl _ | (simp; done) | (simp; omega)) _)) hb1; (first | replace HB := cK1 HB hE__); (first | replace HO := cB1 HO hE__ | replace HO := cO1 HO hE__ | replace HO := cG1 HO hE__ | replace HO := cW1 HO hE__ | replace HO := cV1 HO hE__ | replace HO := cP1 HO hE__ | replace HO := cK1 HO hE__); clear hE__; clear hg1 hb1; simp only [Act.put, List.setIfInBounds_toArray, List.set_cons_zero, List.set_cons_succ])
              | (go_at_call 22; (with_reducible show Calls _ _ #[Value.int .u64 o.code, _, _] _ _); go_must (refine (put_int o.code 2 big _ (by omega) (by omega)).mono ?_); intro e w5 hr5; unfold RetB at hr5; rw [← HL1.out] at hr5; obtain ⟨ad5, c5, rfl, ho5, hb5⟩ := hr5; rw [g1] at ho5; have hE__ := cU HB (by repeat (first | exact Below.refl _ _ | refine Below.drew ?_ | refine Below.trans ?_ (below_drewN _ _ _) | refine Below.alloc ?_ (by first | exact Nat.le_refl _ | (simp; done) | (simp; omega)) _)) hb5; (first | replace HB := cK1 HB hE__); (first | replace HO := cB1 HO hE__ | replace HO := cO1 HO hE__ | replace HO := cG1 HO hE__ | replace HO := cW1 HO hE__ | replace HO := cV1 HO hE__ | replace HO := cP1 HO hE__ | replace HO := cK1 HO hE__); (first | replace HG := cB1 HG hE__ | replace HG := cO1 HG hE__ | replace HG := cG1 HG hE__ | replace HG := cW1 HG hE__ | replace HG := cV1 HG hE__ | replace HG := cP1 HG hE__ | replace HG := cK1 HG hE__); clear hE__; have H1 := Lib.hid (Bs.of_own ho5); clear q0 q1 hb5 ho5; have q0 := oc0 HG.out; have q1 := oc1 HG.out)
              | ((with_reducible show wpList _ _ _ (⟨some 33, _, _, _, _, _⟩ :: _) _ _); go_must (refine wpL_appG elB rfl (.tmp 27) (.tmp 32) rfl w.heap.size wr.heap.size rfl HO.out (lt_of_block HG.out) HNE.out rfl H1.out (by omega) HB.out.size ?_); intro ad3 c3 w3 ho3 hb3 hg3 hne3; clear HO; have HO := Lib.hid ho3; clear HNE; have HNE := Lib.hid hne3; have HG3 := Lib.hid (hg3.trans HG.out); clear HG; have HG := HG3; have HB3 := Lib.hid (HB.out.trans hb3); clear HB; have HB := HB3; clear HG3 HB3 q0 q1 hg3 ho3 hne3 hb3 H1; have q0 := oc0 HG.out; have q1 := oc1 HG.out; simp only [Act.put, List.setIfInBounds_toArray, List.set_cons_zero, List.set_cons_succ])
              | (go_at_call 22; (with_reducible show Calls _ _ #[Value.int .u64 (o.n : Int), _, _] _ _); go_must (refine (put_any o.n 2 big _ (by omega)).mono ?_); intro e w6 hr6; unfold RetB at hr6; rw [← HL2.out] at hr6; obtain ⟨ad6, c6, rfl, ho6, hb6⟩ := hr6; rw [g2] at ho6; have hE__ := cU HB (by repeat (first | exact Below.refl _ _ | refine Below.drew ?_ | refine Below.trans ?_ (below_drewN _ _ _) | refine Below.alloc ?_ (by first | exact Nat.le_refl _ | (simp; done) | (simp; omega)) _)) hb6; (first | replace HB := cK1 HB hE__); (first | replace HO := cB1 HO hE__ | replace HO := cO1 HO hE__ | replace HO := cG1 HO hE__ | replace HO := cW1 HO hE__ | replace HO := cV1 HO hE__ | replace HO := cP1 HO hE__ | replace HO := cK1 HO hE__); (first | replace HG := cB1 HG hE__ | replace HG := cO1 HG hE__ | replace HG := cG1 HG hE__ | replace HG := cW1 HG hE__ | replace HG := cV1 HG hE__ | replace HG := cP1 HG hE__ | replace HG := cK1 HG hE__); clear hE__; have H2 := Lib.hid (Bs.of_own ho6); clear q0 q1 hb6 ho6; have q0 := oc0 HG.out; have q1 := oc1 HG.out)
              | ((with_reducible show wpList _ _ _ (⟨some 41, _, _, _, _, _⟩ :: _) _ _); go_must (refine wpL_appG elB rfl (.tmp 34) (.tmp 40) rfl w.heap.size wr.heap.size rfl HO.out (lt_of_block HG.out) HNE.out rfl H2.out (by omega) HB.out.size ?_); intro ad3 c3 w3 ho3 hb3 hg3 hne3; clear HO; have HO := Lib.hid ho3; clear HNE; have HNE := Lib.hid hne3; have HG3 := Lib.hid (hg3.trans HG.out); clear HG; have HG := HG3; have HB3 := Lib.hid (HB.out.trans hb3); clear HB; have HB := HB3; clear HG3 HB3 q0 q1 hg3 ho3 hne3 hb3 H2; have q0 := oc0 HG.out; have q1 := oc1 HG.out; simp only [Act.put, List.setIfInBounds_toArray, List.set_cons_zero, List.set_cons_succ])
              | (go_at_call 23; go_must (refine (padded_any o.ad o.n o.c o.l _ (HBS.out.below (HB.out.trans (Below.mono (by repeat (first | exact Below.refl _ _ | refine Below.drew ?_ | refine Below.trans ?_ (below_drewN _ _ _) | refine Below.alloc ?_ (by first | exact Nat.le_refl _ | (simp; done) | (simp; omega)) _)) HB.out.size))) (by omega)).mono ?_); intro e w7 hr7; unfold RetB at hr7; rw [← HL3.out] at hr7; obtain ⟨ad7, c7, rfl, ho7, hb7⟩ := hr7; rw [g3] at ho7; have hE__ := cU HB (by repeat (first | exact Below.refl _ _ | refine Below.drew ?_ | refine Below.trans ?_ (below_drewN _ _ _) | refine Below.alloc ?_ (by first | exact Nat.le_refl _ | (simp; done) | (simp; omega)) _)) hb7; (first | replace HB := cK1 HB hE__); (first | replace HO := cB1 HO hE__ | replace HO := cO1 HO hE__ | replace HO := cG1 HO hE__ | replace HO := cW1 HO hE__ | replace HO := cV1 HO hE__ | replace HO := cP1 HO hE__ | replace HO := cK1 HO hE__); (first | replace HG := cB1 HG hE__ | replace HG := cO1 HG hE__ | replace HG := cG1 HG hE__ | replace HG := cW1 HG hE__ | replace HG := cV1 HG hE__ | replace HG := cP1 HG hE__ | replace HG := cK1 HG hE__); clear hE__; have H3 := Lib.hid (Bs.of_own ho7); clear q0 q1 hb7 ho7; have q0 := oc0 HG.out; have q1 := oc1 HG.out)
              | ((with_reducible show wpList _ _ _ (⟨some 46, _, _, _, _, _⟩ :: _) _ _); go_must (refine wpL_appG elB rfl (.tmp 42) (.tmp 45) rfl w.heap.size wr.heap.size rfl HO.out (lt_of_block HG.out) HNE.out rfl H3.out (by omega) HB.out.size ?_); intro ad3 c3 w3 ho3 hb3 hg3 hne3; clear HO; have HO := Lib.hid ho3; clear HNE; have HNE := Lib.hid hne3; have HG3 := Lib.hid (hg3.trans HG.out); clear HG; have HG := HG3; have HB3 := Lib.hid (HB.out.trans hb3); clear HB; have HB := HB3; clear HG3 HB3 q0 q1 hg3 ho3 hne3 hb3 H3; have q0 := oc0 HG.out; have q1 := oc1 HG.out; simp only [Act.put, List.setIfInBounds_toArray, List.set_cons_zero, List.set_cons_succ]))
            go_roundw
            case rel => exact ⟨k + 1, ad3, n1 + 2 + 2 + (o.n + padN o.n), c3, by omega, by go_num, rfl, by have := HZ2.out; omega, by rw [HP2.out]; exact HO.out, HB.out, HE⟩
            case measure => simp [intOf]; omega
    · have hX0 : X = 0 := by rw [HX1.out, List.drop_of_length_le (by rw [vals_length]; omega)]; rfl
      have hall : (vals os).take k = vals os := List.take_of_length_le (by rw [vals_length]; omega)
      rw [hall] at HO hn1
      have hpl := putO_length big (vals os)
      have HX0 := Lib.hid hX0
      have HN1 := Lib.hid hn1
      have HPL := Lib.hid hpl
      have hnb : n1 ≤ 140737488351228 := by omega
      clear hall ho hb HX HX1 hX0 hn1 hpl
      by_cases h0 : n = 0
      · have h1 : ¬ ((0 : Int) < (n : Int)) := by omega
        have he : putAll big (vals os) = putO big (vals os) := by
          have : vals os = [] := List.eq_nil_of_length_eq_zero (by rw [vals_length]; omega)
          rw [this]; rfl
        have HE := Lib.hid he
        clear he hn h0
        go_wp2_with fail
        go_ret2
        refine ⟨HB.out, .inr ⟨HX0.out, ad1, c1, ?_, ?_⟩⟩
        · rw [HE.out, HPL.out, ← HN1.out]; rfl
        · rw [HE.out, HPL.out, ← HN1.out]; exact HO.out
      · have h1 : ((0 : Int) < (n : Int)) := by omega
        have he : putAll big (vals os) = putO big (vals os) ++ [0, 0, 0, 0] := by
          have : vals os ≠ [] := fun e => by have := congrArg List.length e; rw [vals_length] at this; simp at this; rw [this] at hn; simp at hn; exact h0 hn
          unfold putAll endO
          rw [if_neg (by simpa using this)]
        have HE := Lib.hid he
        clear he hn h0
        go_wp2_with (first
          | ((with_reducible show wpList _ _ _ (⟨some 52, _, _, _, _, _⟩ :: _) _ _); go_must (refine wpL_append_zeros elB Try.underlying3 Try.underlying9 rfl (.tmp 51) (.const (.int .i64 4)) rfl w.heap.size rfl HO.out rfl (by omega) HB.out.size ?_); intro ad3 c3 w3 ho3 hg3; have HB3 := Lib.hid (HB.out.grown hg3 HB.out.size (ownBlock_ge HO.out)); clear HO; have HO := Lib.hid ho3; clear ho3 hg3; simp only [Act.put, List.setIfInBounds_toArray, List.set_cons_zero, List.set_cons_succ]))
        go_ret2
        refine ⟨HB3.out, .inr ⟨HX0.out, ad3, c3, ?_, ?_⟩⟩
        · rw [HE.out, List.length_append, HPL.out, ← HN1.out]; rfl
        · rw [HE.out, List.length_append, HPL.out, ← HN1.out]; exact HO.out
end Go.Proofs.Ytmigbcoobbcahaa
