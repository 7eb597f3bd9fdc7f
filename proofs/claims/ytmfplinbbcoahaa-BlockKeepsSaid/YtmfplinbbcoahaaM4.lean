/-
  Joined by program (merge.py): Opt2, Opt3, Opt4, Opt5.
-/
import Derived.Lib.LazyBuf
import Derived.Test.YtmfplinbbcoahaaM2
import Derived.Test.YtmfplinbbcoahaaM3
/-
  Chapter 25: options laid, walked.
-/
namespace Go.Proofs.Ytmfplinbbcoahaa
open Go.RowKit Go.Sort
set_option linter.unusedVariables false
set_option linter.unusedSimpArgs false

theorem cG {w a w' : World} {G : Nat} {ob : Obj} (h : Hid (w.heap[G]? = some ob)) (hu : Below w.heap.size w a) (hb : Below a.heap.size a w') : Hid (w'.heap[G]? = some ob) :=
  Lib.hid ((hb.block G (Nat.lt_of_lt_of_le (lt_of_block h.out) hu.size)).trans ((hu.block G (lt_of_block h.out)).trans h.out))
theorem cG1 {w w' : World} {G : Nat} {ob : Obj} (h : Hid (w.heap[G]? = some ob)) (hE : Below w.heap.size w w') : Hid (w'.heap[G]? = some ob) := Lib.hid ((hE.block G (lt_of_block h.out)).trans h.out)
instance {w w' : World} {G : Nat} {ob : Obj} : Ck (w.heap[G]? = some ob) w' w (w'.heap[G]? = some ob) := ⟨fun h hE => (hE.block G (lt_of_block h)).trans h⟩
theorem oc0 {w : World} {g : Nat} {o : OptV} {T : TypeId} (h : w.heap[g]? = some (.cells #[.int .i64 o.code, .slice o.ad o.n o.c] T (0, 0))) : w.cell? ⟨g, 0, none⟩ = some (.int .i64 o.code) := by simp [World.cell?, h]
theorem oc1 {w : World} {g : Nat} {o : OptV} {T : TypeId} (h : w.heap[g]? = some (.cells #[.int .i64 o.code, .slice o.ad o.n o.c] T (0, 0))) : w.cell? ⟨g, 1, none⟩ = some (.slice o.ad o.n o.c) := by simp [World.cell?, h]
/-- an option laid as a variable -/
theorem wpL_newO {P : Program} {w : World} {ops : Array Oper} {rest : List Oper} {o1 o2 : Oper} {a : Act} {Q : Exit → Act → World → Prop} (o : OptV) (hg1 : o1.guard = none) (hg2 : o2.guard = none) (T : TypeId) (ho1 : o1.op = .alloc T) (x y : Operand) (ho2 : o2.op = .store T x y)
    (zs : Array Value) (hi : (P.info? T).map (fun i => (i.zero, i.size)) = some (some (.agg zs), 2)) (hz : zs.size = 2)
    (hx : ∀ p, (a.put o1.dst p).eval x = p) (hy : ∀ p, (a.put o1.dst p).eval y = .agg #[.int .i64 o.code, .slice o.ad o.n o.c])
    (h : ∀ w1, w1.heap[w.heap.size]? = some (.cells #[.int .i64 o.code, .slice o.ad o.n o.c] T (0, 0)) → Below w.heap.size w w1 → wpList P ops Q rest ((a.put o1.dst (.pointer (some ⟨w.heap.size, 0, none⟩))).put o2.dst undef) w1) :
    wpList P ops Q (o1 :: o2 :: rest) a w :=
  wpL_new hg1 hg2 T ho1 x y ho2 #[.int .i64 o.code, .slice o.ad o.n o.c] zs hi hz (ocell_all o) hx hy (h _ (heap_alloc_last w _) ((Below.refl _ _).alloc (Nat.le_refl _) _))

theorem putO_take (big : Bool) (l : List OV) (k : Nat) (h : k < l.length) : putO big (l.take (k + 1)) = putO big (l.take k) ++ putL l[k].1.toNat 2 big ++ putL l[k].2.length 2 big ++ padL l[k].2 := by
  rw [List.take_add_one, List.getElem?_eq_getElem h, Option.toList_some, putO_append, putO_one]
  simp only [optB, hdB, List.append_assoc]

set_option maxRecDepth 100000 in
set_option maxHeartbeats 2000000 in
theorem optPut_any (ad : Option Addr) (n c : Nat) (os : List OptV) (big : Bool) (w : World) (hs : Ops w ad n c os) (hsz : sizeO (vals os) + 4 ≤ 140737488351232) :
    Calls Try.prog 80 #[.slice ad n c, .bool big] w fun e w' => Below w.heap.size w w' ∧
      ((wrongO (vals os) ≠ 0 ∧ e = .returned (.tuple #[.slice none 0 0, .int .i64 (wrongO (vals os))])) ∨
       (wrongO (vals os) = 0 ∧ ∃ ad' c', e = .returned (.tuple #[.slice ad' (putAll big (vals os)).length c', .int .i64 0]) ∧ w'.ownsRow w.heap.size 5 1 (.slice ad' (putAll big (vals os)).length c') (putAll big (vals os)).length (BV (putAll big (vals os))))) := by
  have hn := hs.len
  have hle := hs.le
  have HS := Lib.hid hs
  have HI : Hid ((Try.prog.info? 90).map (·.size) = some 2) := Lib.hid (by kernel_rfl)
  obtain ⟨X, hX⟩ : ∃ X, X = wrongO (vals os) := ⟨_, rfl⟩
  have HX := Lib.hid (show X = wrongO ((vals os).drop 0) by rw [hX, List.drop_zero])
  rw [← hX]
  have HN := Lib.hid hn
  clear hs hX hn
  go_enter Try.func80, Try.ntmps80
  go_wp2_with fail
  go_loopw [6, 11] (fun v i wr => ∃ (k : Nat) (ad' : Option Addr) (n' c' : Nat), k ≤ n ∧ i = .int .i64 k ∧ v = .slice ad' n' c' ∧ n' = sizeO ((vals os).take k) ∧ wr.ownsRow w.heap.size 5 1 (.slice ad' n' c') n' (BV (putO big ((vals os).take k))) ∧ Below w.heap.size w wr ∧ Hid (X = wrongO ((vals os).drop k))) (fun _ i _ => n - (intOf i).toNat)
  case atStart => exact ⟨0, none, 0, 0, by omega, rfl, rfl, rfl, World.ownsRow_nil _ _ _ _, Below.refl _ _, HX⟩
  case round =>
    obtain ⟨k, ad1, n1, c1, hk, rfl, rfl, hn1, ho, hb, HX1⟩ := hrel
    have HO := Lib.hid ho
    have HB := Lib.hid hb
    have hn := HN.out
    by_cases hlt : k < n
    · obtain ⟨b, off, rfl, hbl, hat⟩ := (HS.out.below hb).at (j := k) (by omega)
      obtain ⟨q1, q2, hbs⟩ := hat k (by omega)
      have hon := hbs.len
      have hol := hbs.le
      obtain ⟨o, hoe⟩ : ∃ o, o = os[k]'(by omega) := ⟨_, rfl⟩
      rw [← hoe] at q1 q2 hon hol hbs
      have hkl : k < (vals os).length := by rw [vals_length]; omega
      have hval : (vals os)[k] = (o.code, o.l) := by rw [vals_get _ _ (by omega), ← hoe]; rfl
      have HD : Hid (X = if o.code < 1 ∨ 65535 < o.code then 1 else if 65535 < o.n then 4 else wrongO ((vals os).drop (k + 1))) := Lib.hid (by
        rw [HX1.out, List.drop_eq_getElem_cons hkl, wrongO, hval, hon])
      have HP := Lib.hid (putO_take big (vals os) k hkl)
      rw [hval] at HP
      dsimp only at HP
      have hz2 : n1 + (4 + o.n + padN o.n) = sizeO ((vals os).take (k + 1)) := by
        rw [sizeO_take _ _ hkl, hval, hn1, hon]
        rfl
      have hz3 : n1 + (4 + o.n + padN o.n) ≤ 140737488351228 := by
        have := sizeO_take_le (vals os) (k + 1)
        omega
      have HZ2 := Lib.hid hz2
      have HR := Lib.hid (ocell_range q1 q2)
      have HBS : Hid (Bs w o.ad o.n o.c o.l) := Lib.hid (by
        obtain ⟨_, _, _, _, hat0⟩ := HS.out.at (j := k) (by omega)
        rw [hoe]
        exact (hat0 k (by omega)).2.2)
      have hne : ∀ x, ad1 = some x → x.block ≠ wr.heap.size := by
        intro x hx e
        rcases own_form ho with ⟨h, _⟩ | ⟨g, h, h2, h3⟩
        · rw [h] at hx; cases hx
        · rw [h] at hx; cases hx
          have e2 : g = wr.heap.size := e
          omega
      have HNE := Lib.hid hne
      have HON := Lib.hid hon
      clear hat hoe HX1 HX hz2 q1 q2 hb ho hbs hkl hval hne hn1 hon hn
      by_cases h1 : o.code < 1
      · have HE := Lib.hid (HD.out.trans (if_pos (.inl h1)))
        go_wp2_with (first
          | ((with_reducible refine sl 14 ?_); go_must (refine wpL_load rfl 90 (.tmp 13) rfl b (off + k * 2) rfl o.cells _ HR.out Try.underlying90 rfl HI.out ?_); simp only [PT])
          | ((with_reducible refine sl 8 ?_); go_must (refine wpL_newO o rfl rfl 90 rfl (.tmp 8) (.tmp 14) rfl #[.int .i64 0, .slice none 0 0] (by kernel_rfl) rfl (fun _ => rfl) (fun _ => rfl) ?_); intro w1 hg1 hb1; have q0 := oc0 hg1; have q1 := oc1 hg1; have hE__ := cU HB bup hb1; replace HB := ck HB hE__; clear hE__; clear hg1 hb1; simp only [PT]))
        go_ret2
        exact ⟨HB.out, .inl ⟨by rw [HE.out]; omega, by rw [HE.out]; rfl⟩⟩
      · by_cases h2 : (65535 : Int) < o.code
        · have HE := Lib.hid (HD.out.trans (if_pos (.inr h2)))
          go_wp2_with (first
            | ((with_reducible refine sl 14 ?_); go_must (refine wpL_load rfl 90 (.tmp 13) rfl b (off + k * 2) rfl o.cells _ HR.out Try.underlying90 rfl HI.out ?_); simp only [PT])
            | ((with_reducible refine sl 8 ?_); go_must (refine wpL_newO o rfl rfl 90 rfl (.tmp 8) (.tmp 14) rfl #[.int .i64 0, .slice none 0 0] (by kernel_rfl) rfl (fun _ => rfl) (fun _ => rfl) ?_); intro w1 hg1 hb1; have q0 := oc0 hg1; have q1 := oc1 hg1; have hE__ := cU HB bup hb1; replace HB := ck HB hE__; clear hE__; clear hg1 hb1; simp only [PT]))
          go_ret2
          exact ⟨HB.out, .inl ⟨by rw [HE.out]; omega, by rw [HE.out]; rfl⟩⟩
        · by_cases h3 : (65535 : Int) < o.n
          · have HE := Lib.hid ((HD.out.trans (if_neg (by omega))).trans (if_pos (by omega)))
            go_wp2_with (first
              | ((with_reducible refine sl 14 ?_); go_must (refine wpL_load rfl 90 (.tmp 13) rfl b (off + k * 2) rfl o.cells _ HR.out Try.underlying90 rfl HI.out ?_); simp only [PT])
              | ((with_reducible refine sl 8 ?_); go_must (refine wpL_newO o rfl rfl 90 rfl (.tmp 8) (.tmp 14) rfl #[.int .i64 0, .slice none 0 0] (by kernel_rfl) rfl (fun _ => rfl) (fun _ => rfl) ?_); intro w1 hg1 hb1; have q0 := oc0 hg1; have q1 := oc1 hg1; have hE__ := cU HB bup hb1; replace HB := ck HB hE__; clear hE__; clear hg1 hb1; simp only [PT]))
            go_ret2
            exact ⟨HB.out, .inl ⟨by rw [HE.out]; omega, by rw [HE.out]; rfl⟩⟩
          · have HE := Lib.hid ((HD.out.trans (if_neg (by omega))).trans (if_neg (by omega)))
            obtain ⟨l1, hl1⟩ : ∃ l, l = putL o.code.toNat 2 big := ⟨_, rfl⟩
            obtain ⟨l2, hl2⟩ : ∃ l, l = putL o.n 2 big := ⟨_, rfl⟩
            obtain ⟨l3, hl3⟩ : ∃ l, l = padL o.l := ⟨_, rfl⟩
            have g1 : l1.length = 2 := by rw [hl1, putL2_length]
            have g2 : l2.length = 2 := by rw [hl2, putL2_length]
            have g3 : l3.length = o.n + padN o.n := by rw [hl3, padL_length, HON.out]
            have HL1 := Lib.hid hl1
            have HL2 := Lib.hid hl2
            have HL3 := Lib.hid hl3
            have HP2 := Lib.hid (show putO big ((vals os).take (k + 1)) = putO big ((vals os).take k) ++ l1 ++ l2 ++ l3 by rw [HP.out, hl1, hl2, hl3, HON.out])
            clear hl1 hl2 hl3 HP HD
            go_wp2_with (first
              | ((with_reducible refine sl 14 ?_); go_must (refine wpL_load rfl 90 (.tmp 13) rfl b (off + k * 2) rfl o.cells _ HR.out Try.underlying90 rfl HI.out ?_); simp only [PT])
              | ((with_reducible refine sl 8 ?_); go_must (refine wpL_newO o rfl rfl 90 rfl (.tmp 8) (.tmp 14) rfl #[.int .i64 0, .slice none 0 0] (by kernel_rfl) rfl (fun _ => rfl) (fun _ => rfl) ?_); intro w1 hg1 hb1; have q0 := oc0 hg1; have q1 := oc1 hg1; have HG := Lib.hid hg1; have hE__ := cU HB bup hb1; replace HB := ck HB hE__; replace HO := ck HO hE__; clear hE__; clear hg1 hb1; simp only [PT])
              | (go_at_call 47; (with_reducible show Calls _ _ #[Value.int .u64 o.code, _, _] _ _); go_must (refine (put_int o.code 2 big _ (by omega) (by omega)).mono ?_); intro e w5 hr5; unfold RetB at hr5; rw [← HL1.out] at hr5; obtain ⟨ad5, c5, rfl, ho5, hb5⟩ := hr5; rw [g1] at ho5; have hE__ := cU HB bup hb5; replace HB := ck HB hE__; replace HO := ck HO hE__; replace HG := ck HG hE__; clear hE__; have H1 := Lib.hid (Bs.of_own ho5); clear q0 q1 hb5 ho5; have q0 := oc0 HG.out; have q1 := oc1 HG.out)
              | ((with_reducible refine sl 33 ?_); go_must (refine wpL_appG elB rfl (.tmp 27) (.tmp 32) rfl w.heap.size wr.heap.size rfl HO.out (lt_of_block HG.out) HNE.out rfl H1.out (by omega) HB.out.size ?_); intro ad3 c3 w3 ho3 hb3 hg3 hne3; clear HO; have HO := Lib.hid ho3; clear HNE; have HNE := Lib.hid hne3; have HG3 := Lib.hid (hg3.trans HG.out); clear HG; have HG := HG3; have HB3 := Lib.hid (HB.out.trans hb3); clear HB; have HB := HB3; clear HG3 HB3 q0 q1 hg3 ho3 hne3 hb3 H1; have q0 := oc0 HG.out; have q1 := oc1 HG.out; simp only [PT])
              | (go_at_call 47; (with_reducible show Calls _ _ #[Value.int .u64 (o.n : Int), _, _] _ _); go_must (refine (put_any o.n 2 big _ (by omega)).mono ?_); intro e w6 hr6; unfold RetB at hr6; rw [← HL2.out] at hr6; obtain ⟨ad6, c6, rfl, ho6, hb6⟩ := hr6; rw [g2] at ho6; have hE__ := cU HB bup hb6; replace HB := ck HB hE__; replace HO := ck HO hE__; replace HG := ck HG hE__; clear hE__; have H2 := Lib.hid (Bs.of_own ho6); clear q0 q1 hb6 ho6; have q0 := oc0 HG.out; have q1 := oc1 HG.out)
              | ((with_reducible refine sl 41 ?_); go_must (refine wpL_appG elB rfl (.tmp 34) (.tmp 40) rfl w.heap.size wr.heap.size rfl HO.out (lt_of_block HG.out) HNE.out rfl H2.out (by omega) HB.out.size ?_); intro ad3 c3 w3 ho3 hb3 hg3 hne3; clear HO; have HO := Lib.hid ho3; clear HNE; have HNE := Lib.hid hne3; have HG3 := Lib.hid (hg3.trans HG.out); clear HG; have HG := HG3; have HB3 := Lib.hid (HB.out.trans hb3); clear HB; have HB := HB3; clear HG3 HB3 q0 q1 hg3 ho3 hne3 hb3 H2; have q0 := oc0 HG.out; have q1 := oc1 HG.out; simp only [PT])
              | (go_at_call 79; go_must (refine (padded_any o.ad o.n o.c o.l _ (HBS.out.below (HB.out.trans (Below.mono bup HB.out.size))) (by omega)).mono ?_); intro e w7 hr7; unfold RetB at hr7; rw [← HL3.out] at hr7; obtain ⟨ad7, c7, rfl, ho7, hb7⟩ := hr7; rw [g3] at ho7; have hE__ := cU HB bup hb7; replace HB := ck HB hE__; replace HO := ck HO hE__; replace HG := ck HG hE__; clear hE__; have H3 := Lib.hid (Bs.of_own ho7); clear q0 q1 hb7 ho7; have q0 := oc0 HG.out; have q1 := oc1 HG.out)
              | ((with_reducible refine sl 46 ?_); go_must (refine wpL_appG elB rfl (.tmp 42) (.tmp 45) rfl w.heap.size wr.heap.size rfl HO.out (lt_of_block HG.out) HNE.out rfl H3.out (by omega) HB.out.size ?_); intro ad3 c3 w3 ho3 hb3 hg3 hne3; clear HO; have HO := Lib.hid ho3; clear HNE; have HNE := Lib.hid hne3; have HG3 := Lib.hid (hg3.trans HG.out); clear HG; have HG := HG3; have HB3 := Lib.hid (HB.out.trans hb3); clear HB; have HB := HB3; clear HG3 HB3 q0 q1 hg3 ho3 hne3 hb3 H3; have q0 := oc0 HG.out; have q1 := oc1 HG.out; simp only [PT]))
            go_roundw
            case rel => exact ⟨k + 1, ad3, n1 + 2 + 2 + (o.n + padN o.n), c3, by omega, by go_num, rfl, by have := HZ2.out; omega, by rw [HP2.out]; exact HO.out, HB.out, HE⟩
            case measure => simp [intOf]; omega
    · have hX0 : X = 0 := by rw [HX1.out, List.drop_of_length_le (by rw [vals_length]; omega)]; rfl
      have hall : (vals os).take k = vals os := List.take_of_length_le (by rw [vals_length]; omega)
      rw [hall] at HO hn1
      have hpl := putO_length big (vals os)
      have HX0 := Lib.hid hX0
      have HN1 := Lib.hid hn1
      have HPL := Lib.hid hpl
      have hnb : n1 ≤ 140737488351228 := by omega
      clear hall ho hb HX HX1 hX0 hn1 hpl
      by_cases h0 : n = 0
      · have h1 : ¬ ((0 : Int) < (n : Int)) := by omega
        have he : putAll big (vals os) = putO big (vals os) := by
          have : vals os = [] := List.eq_nil_of_length_eq_zero (by rw [vals_length]; omega)
          rw [this]; rfl
        have HE := Lib.hid he
        clear he hn h0
        go_wp2_with fail
        go_ret2
        refine ⟨HB.out, .inr ⟨HX0.out, ad1, c1, ?_, ?_⟩⟩
        · rw [HE.out, HPL.out, ← HN1.out]; rfl
        · rw [HE.out, HPL.out, ← HN1.out]; exact HO.out
      · have h1 : ((0 : Int) < (n : Int)) := by omega
        have he : putAll big (vals os) = putO big (vals os) ++ [0, 0, 0, 0] := by
          have : vals os ≠ [] := fun e => by have := congrArg List.length e; rw [vals_length] at this; simp at this; rw [this] at hn; simp at hn; exact h0 hn
          unfold putAll endO
          rw [if_neg (by simpa using this)]
        have HE := Lib.hid he
        clear he hn h0
        go_wp2_with (first
          | ((with_reducible refine sl 52 ?_); go_must (refine wpL_append_zeros elB Try.underlying3 Try.underlying9 rfl (.tmp 51) (.const (.int .i64 4)) rfl w.heap.size rfl HO.out rfl (by omega) HB.out.size ?_); intro ad3 c3 w3 ho3 hg3; have HB3 := Lib.hid (HB.out.grown hg3 HB.out.size (ownBlock_ge HO.out)); clear HO; have HO := Lib.hid ho3; clear ho3 hg3; simp only [PT]))
        go_ret2
        refine ⟨HB3.out, .inr ⟨HX0.out, ad3, c3, ?_, ?_⟩⟩
        · rw [HE.out, List.length_append, HPL.out, ← HN1.out]; rfl
        · rw [HE.out, List.length_append, HPL.out, ← HN1.out]; exact HO.out
end Go.Proofs.Ytmfplinbbcoahaa
/-
  Chapter 25: options laid by the document, walked.
-/
namespace Go.Proofs.Ytmfplinbbcoahaa
open Go.RowKit Go.Sort
set_option linter.unusedVariables false
set_option linter.unusedSimpArgs false

/-- 'append(s, x...)' of bytes, s the call's own. -/
theorem wpL_appB {P : Program} {w : World} {ops : Array Oper} {rest : List Oper} {o : Oper} {a : Act} {Q : Exit → Act → World → Prop} {t e : TypeId} {z : Value} (el : Elem P t e 1 1 z)
    (hgd : Region.wanted o (yielded ops a.tmps) = true) (s x : Operand) (ho : o.op = .call { callee := .builtin .append, args := #[s, x], argTypes := #[t, t] })
    (base : Nat) {ad : Option Addr} {n c : Nat} {l : List UInt8} (hs : a.eval s = .slice ad n c) (hown : w.ownsRow base e 1 (.slice ad n c) n (BV l))
    {ad2 : Option Addr} {m c2 : Nat} {news : List UInt8} (hx : a.eval x = .slice ad2 m c2) (hsl : Bs w ad2 m c2 news)
    (h63 : n + m ≤ 140737488351232) (hbase : base ≤ w.heap.size)
    (h : ∀ ad' c' w', w'.ownsRow base e 1 (.slice ad' (n + m) c') (n + m) (BV (l ++ news)) → Below base w w' → wpList P ops Q rest (a.put o.dst (.slice ad' (n + m) c')) w') :
    wpList P ops Q (o :: rest) a w := by
  refine wpL_append el hgd s x ho base hs hown hx hsl (BV_one _) (by unfold maxLen; omega) (by omega) hbase fun ad' c' w' ho' hg' hat _ => h ad' c' w' ?_ ?_
  · rw [BV_append]; exact ho'
  · exact (Below.refl base w).grown hg' hbase (ownBlock_ge hown)
theorem Below.cellAt {w w' : World} {b off : Nat} {v : Value} (h : w.cell? ⟨b, off, none⟩ = some v) (hb : Below w.heap.size w w') (hl : b < w.heap.size) : w'.cell? ⟨b, off, none⟩ = some v :=
  (hb.cell (p := ⟨b, off, none⟩) hl).trans h

set_option maxRecDepth 100000 in
set_option maxHeartbeats 2000000 in
theorem refOptPut_any (ad : Option Addr) (n c : Nat) (os : List OptV) (big : Bool) (w : World) (hs : Ops w ad n c os) (hsz : sizeO (vals os) + 4 ≤ 140000000000000) (hok : ∀ o ∈ vals os, okO o) :
    Calls Try.prog 56 #[.slice ad n c, .bool big] w (RetB 5 (putAll big (vals os)) w) := by
  have hn := hs.len
  have hle := hs.le
  have HS := Lib.hid hs
  have HN := Lib.hid hn
  clear hs hn
  go_enter Try.func56, Try.ntmps56
  go_wp2_with fail
  go_loopw [5, 6] (fun v i wr => ∃ (k : Nat) (ad' : Option Addr) (n' c' : Nat), k ≤ n ∧ i = .int .i64 k ∧ v = .slice ad' n' c' ∧ Hid (n' = sizeO ((vals os).take k)) ∧ wr.ownsRow w.heap.size 5 1 (.slice ad' n' c') n' (BV (putO big ((vals os).take k))) ∧ Below w.heap.size w wr) (fun _ i _ => n - (intOf i).toNat)
  case atStart => exact ⟨0, none, 0, 0, by omega, rfl, rfl, Lib.hid rfl, World.ownsRow_nil _ _ _ _, Below.refl _ _⟩
  case round =>
    obtain ⟨k, ad1, n1, c1, hk, rfl, rfl, HN1, ho, hb⟩ := hrel
    have HO := Lib.hid ho
    have HB := Lib.hid hb
    have hn := HN.out
    by_cases hlt : k < n
    · obtain ⟨b, off, rfl, hbl, hat⟩ := HS.out.at (j := k) (by omega)
      obtain ⟨q1, q2, hbs⟩ := hat k (by omega)
      have hon := hbs.len
      have hol := hbs.le
      obtain ⟨o, hoe⟩ : ∃ o, o = os[k]'(by omega) := ⟨_, rfl⟩
      rw [← hoe] at q1 q2 hon hol hbs
      have hkl : k < (vals os).length := by rw [vals_length]; omega
      have hval : (vals os)[k] = (o.code, o.l) := by rw [vals_get _ _ (by omega), ← hoe]; rfl
      have hok1 : okO (o.code, o.l) := by rw [← hval]; exact hok _ (List.getElem_mem hkl)
      obtain ⟨k1, k2, k3⟩ := hok1
      dsimp only at k1 k2 k3
      have HP := Lib.hid (putO_take big (vals os) k hkl)
      rw [hval] at HP
      dsimp only at HP
      have hz2 : n1 + (4 + o.n + padN o.n) = sizeO ((vals os).take (k + 1)) := by
        rw [sizeO_take _ _ hkl, hval, HN1.out, hon]
        rfl
      have hz3 : n1 + (4 + o.n + padN o.n) ≤ 139999999999996 := by
        have := sizeO_take_le (vals os) (k + 1)
        omega
      have hz4 : n1 % 4 = 0 := by rw [HN1.out]; exact sizeO_mod _
      have HZ4 := Lib.hid hz4
      have HZ2 := Lib.hid hz2
      have HBS := Lib.hid hbs
      have HON := Lib.hid hon
      have Q1 := Lib.hid q1
      have Q2 := Lib.hid q2
      have q1 := Below.cellAt Q1.out HB.out hbl
      have q2 := Below.cellAt Q2.out HB.out hbl
      obtain ⟨l1, hl1⟩ : ∃ l, l = putL o.code.toNat 2 big := ⟨_, rfl⟩
      obtain ⟨l2, hl2⟩ : ∃ l, l = putL o.n 2 big := ⟨_, rfl⟩
      have g1 : l1.length = 2 := by rw [hl1, putL2_length]
      have g2 : l2.length = 2 := by rw [hl2, putL2_length]
      have HL1 := Lib.hid hl1
      have HL2 := Lib.hid hl2
      have HP2 := Lib.hid (show putO big ((vals os).take (k + 1)) = putO big ((vals os).take k) ++ l1 ++ l2 ++ o.l ++ List.replicate (padN o.n) 0 by rw [HP.out, hl1, hl2, HON.out]; simp only [padL, List.append_assoc])
      have hp3 := padN_le o.n
      have hon2 : o.n ≤ 65535 := by omega
      clear hl1 hl2 HP hat hoe hz2 hz4 hb ho hbs hkl hval hon hn k3
      go_wp2_with (first
        | (go_at_call 53; (with_reducible show Calls _ _ #[Value.int .u64 o.code, _, _] _ _); go_must (refine (refPut_int o.code 2 big _ (by omega) (by omega)).mono ?_); intro e w5 hr5; unfold RetB at hr5; rw [← HL1.out] at hr5; obtain ⟨ad5, c5, rfl, ho5, hb5⟩ := hr5; rw [g1] at ho5; have hE__ := cU HB bup hb5; replace HB := ck HB hE__; replace HO := ck HO hE__; clear hE__; have H1 := Lib.hid (Bs.of_own ho5); clear q1 q2 hb5 ho5; have q1 := Below.cellAt Q1.out HB.out hbl; have q2 := Below.cellAt Q2.out HB.out hbl)
        | ((with_reducible refine sl 22 ?_); go_must (refine wpL_appB elB rfl (.tmp 13) (.tmp 21) rfl w.heap.size rfl HO.out rfl H1.out (by omega) HB.out.size ?_); intro ad3 c3 w3 ho3 hb3; clear HO; have HO := Lib.hid ho3; have HB3 := Lib.hid (HB.out.trans hb3); clear HB; have HB := HB3; clear HB3 q1 q2 ho3 hb3 H1; have q1 := Below.cellAt Q1.out HB.out hbl; have q2 := Below.cellAt Q2.out HB.out hbl; simp only [PT])
        | (go_at_call 53; (with_reducible show Calls _ _ #[Value.int .u64 (o.n : Int), _, _] _ _); go_must (refine (refPut_any o.n 2 big _ (by omega)).mono ?_); intro e w6 hr6; unfold RetB at hr6; rw [← HL2.out] at hr6; obtain ⟨ad6, c6, rfl, ho6, hb6⟩ := hr6; rw [g2] at ho6; have hE__ := cU HB bup hb6; replace HB := ck HB hE__; replace HO := ck HO hE__; clear hE__; have H2 := Lib.hid (Bs.of_own ho6); clear q1 q2 hb6 ho6; have q1 := Below.cellAt Q1.out HB.out hbl; have q2 := Below.cellAt Q2.out HB.out hbl)
        | ((with_reducible refine sl 33 ?_); go_must (refine wpL_appB elB rfl (.tmp 23) (.tmp 32) rfl w.heap.size rfl HO.out rfl H2.out (by omega) HB.out.size ?_); intro ad3 c3 w3 ho3 hb3; clear HO; have HO := Lib.hid ho3; have HB3 := Lib.hid (HB.out.trans hb3); clear HB; have HB := HB3; clear HB3 q1 q2 ho3 hb3 H2; have q1 := Below.cellAt Q1.out HB.out hbl; have q2 := Below.cellAt Q2.out HB.out hbl; simp only [PT])
        | ((with_reducible refine sl 40 ?_); go_must (refine wpL_appB elB rfl (.tmp 34) (.tmp 39) rfl w.heap.size rfl HO.out rfl (HBS.out.below HB.out) (by omega) HB.out.size ?_); intro ad3 c3 w3 ho3 hb3; clear HO; have HO := Lib.hid ho3; have HB3 := Lib.hid (HB.out.trans hb3); clear HB; have HB := HB3; clear HB3 q1 q2 ho3 hb3; simp only [PT]))
      go_loopw [5] (fun v wr2 => ∃ (j : Nat) (ad' : Option Addr) (m c' : Nat), j ≤ padN o.n ∧ v = .slice ad' m c' ∧ Hid (m = n1 + 2 + 2 + o.n + j) ∧ wr2.ownsRow w.heap.size 5 1 (.slice ad' m c') m (BV (putO big ((vals os).take k) ++ l1 ++ l2 ++ o.l ++ List.replicate j 0)) ∧ Below w.heap.size w wr2) (fun v _ => n1 + 4 + o.n + padN o.n - lenV v)
      case atStart => exact ⟨0, ad3, n1 + 2 + 2 + o.n, c3, by omega, rfl, Lib.hid rfl, by rw [List.replicate_zero, List.append_nil]; exact HO.out, HB.out⟩
      case round =>
        obtain ⟨j, ad2, m, c2, hj, rfl, HM, ho, hb⟩ := hrel
        clear HO HB
        have HO := Lib.hid ho
        have HB := Lib.hid hb
        have hmb : m ≤ 139999999999996 := by have := HM.out; omega
        clear ho hb
        by_cases h4 : (m : Int) % 4 = 0
        · have hj2 : j = padN o.n := padN_end o.n j (by have := HM.out; have := HZ4.out; omega) hj
          have HJ := Lib.hid hj2
          clear hj2
          go_wp2_with fail
          go_roundw
          case rel => exact ⟨k + 1, ad2, m, c2, by omega, by go_num, rfl, Lib.hid (by rw [HM.out, ← HZ2.out, HJ.out]; omega), by rw [HP2.out, ← HJ.out]; exact HO.out, HB.out⟩
          case measure => simp [intOf]; omega
        · have hj2 : j < padN o.n := padN_more o.n j (by have := HM.out; have := HZ4.out; omega) hj
          go_wp2_with (first
            | ((with_reducible refine sl 47 ?_); go_must (refine wpL_push elB rfl (.tmp 45) (.tmp 46) rfl w.heap.size rfl HO.out _ 1 rfl rfl rfl (BV_one [0]) (by omega) (by omega) (by omega) HB.out.size HB.out (Nat.le_refl _) ?_); intro ad3 c3 w3 ho3 hb3 hg3; clear hg3 HO; have HO := Lib.hid ho3; clear HB; have HB := Lib.hid hb3; clear ho3 hb3; simp only [PT]))
          go_roundw
          case rel => exact ⟨j + 1, ad3, m + 1, c3, by omega, rfl, Lib.hid (by rw [HM.out]; omega), by rw [List.replicate_succ', ← List.append_assoc, BV_append]; exact HO.out, HB.out⟩
          case measure => simp only [lenV]; have := HM.out; omega
    · have hall : (vals os).take k = vals os := List.take_of_length_le (by rw [vals_length]; omega)
      rw [hall] at HO HN1
      have hpl := putO_length big (vals os)
      have HPL := Lib.hid hpl
      have hnb : n1 ≤ 139999999999996 := by have := HN1.out; omega
      by_cases h0 : n = 0
      · have h1 : ¬ ((0 : Int) < (n : Int)) := by omega
        have he : putAll big (vals os) = putO big (vals os) := by
          have : vals os = [] := List.eq_nil_of_length_eq_zero (by rw [vals_length]; omega)
          rw [this]; rfl
        have HE := Lib.hid he
        clear he hn h0 hall ho hb hpl
        go_wp2_with fail
        go_ret
        refine ⟨ad1, c1, ?_, ?_, HB.out⟩
        · rw [HE.out, HPL.out, ← HN1.out]; rfl
        · rw [HE.out, HPL.out, ← HN1.out]; exact HO.out
      · have h1 : ((0 : Int) < (n : Int)) := by omega
        have he : putAll big (vals os) = putO big (vals os) ++ [0, 0, 0, 0] := by
          have : vals os ≠ [] := fun e => by have := congrArg List.length e; rw [vals_length] at this; simp at this; rw [this] at hn; simp at hn; exact h0 hn
          unfold putAll endO
          rw [if_neg (by simpa using this)]
        have HE := Lib.hid he
        clear he hn h0 hall ho hb hpl
        go_wp2_with (first
          | ((with_reducible refine sl 53 ?_); go_must (refine wpL_push elB rfl (.tmp 51) (.tmp 52) rfl w.heap.size rfl HO.out _ 4 rfl rfl rfl (BV_one [0, 0, 0, 0]) (by omega) (by omega) (by omega) HB.out.size HB.out (Nat.le_refl _) ?_); intro ad3 c3 w3 ho3 hb3 hg3; clear hg3 HO; have HO := Lib.hid ho3; clear HB; have HB := Lib.hid hb3; clear ho3 hb3; simp only [PT]))
        go_ret
        refine ⟨ad3, c3, ?_, ?_, HB.out⟩
        · rw [HE.out, List.length_append, HPL.out, ← HN1.out]; rfl
        · rw [HE.out, List.length_append, HPL.out, ← HN1.out, BV_append]; exact HO.out
end Go.Proofs.Ytmfplinbbcoahaa
/-
  Chapter 25: options that the call made itself; copies of bytes.
-/
namespace Go.Proofs.Ytmfplinbbcoahaa
open Go.RowKit Go.Sort
set_option linter.unusedVariables false
set_option linter.unusedSimpArgs false

/-- options in a row of the call's own (base or later), their values in others -/
def OwnOps (e : TypeId) (base : Nat) (w : World) (ad : Option Addr) (n c : Nat) (os : List OptV) : Prop :=
  w.ownsRow base e 2 (.slice ad n c) n (ocells os) ∧ ∀ o ∈ os, Bs w o.ad o.n o.c o.l ∧ ∀ x, o.ad = some x → base ≤ x.block ∧ x.block < w.heap.size ∧ ∀ y, ad = some y → x.block ≠ y.block
theorem OwnOps.ops {e : TypeId} {base : Nat} {w : World} {ad : Option Addr} {n c : Nat} {os : List OptV} (h : OwnOps e base w ad n c os) : Ops w ad n c os := ⟨Sl.of_own h.1, fun o ho => (h.2 o ho).1⟩
theorem OwnOps.nil (e : TypeId) (base : Nat) (w : World) : OwnOps e base w none 0 0 [] := ⟨World.ownsRow_nil _ _ _ _, fun o ho => by cases ho⟩
theorem OwnOps.keep {e : TypeId} {base : Nat} {w w' : World} {ad : Option Addr} {n c : Nat} {os : List OptV} (h : OwnOps e base w ad n c os) (hb : Below w.heap.size w w') : OwnOps e base w' ad n c os :=
  ⟨own_keep h.1 hb, fun o ho => ⟨(h.2 o ho).1.below hb, fun x hx => ⟨((h.2 o ho).2 x hx).1, Nat.lt_of_lt_of_le ((h.2 o ho).2 x hx).2.1 hb.size, ((h.2 o ho).2 x hx).2.2⟩⟩⟩
theorem OwnOps.other {e : TypeId} {base G : Nat} {w w' : World} {ad : Option Addr} {n c : Nat} {os : List OptV} (h : OwnOps e base w ad n c os) (hg : w.grownBy w' (some G)) (hG : G < base) : OwnOps e base w' ad n c os := by
  refine ⟨h.1.kept hg ?_, fun o ho => ⟨Sl.grown (h.2 o ho).1 hg (fun x hx e => ?_), fun x hx => ⟨((h.2 o ho).2 x hx).1, Nat.lt_of_lt_of_le ((h.2 o ho).2 x hx).2.1 hg.size, ((h.2 o ho).2 x hx).2.2⟩⟩⟩
  · rcases own_form h.1 with ⟨rfl, _⟩ | ⟨g, rfl, h2, _⟩
    · exact .inl rfl
    · refine .inr fun e => ?_
      simp [Value.ownBlock] at e
      omega
  · have := ((h.2 o ho).2 x hx).1
    cases e
    omega
theorem OwnOps.base {e : TypeId} {base base' : Nat} {w : World} {ad : Option Addr} {n c : Nat} {os : List OptV} (h : OwnOps e base w ad n c os) (hb : base' ≤ base) : OwnOps e base' w ad n c os :=
  ⟨own_base h.1 hb, fun o ho => ⟨(h.2 o ho).1, fun x hx => ⟨Nat.le_trans hb ((h.2 o ho).2 x hx).1, ((h.2 o ho).2 x hx).2⟩⟩⟩

/-- 'append(out, api.Option{..})' -/
theorem wpL_pushO {P : Program} {v : World} {ops : Array Oper} {rest : List Oper} {o1 : Oper} {a : Act} {Q : Exit → Act → World → Prop} {t e e' : TypeId} {z : Value} (el : Elem P t e 2 32 z)
    (hgd : Region.wanted o1 (yielded ops a.tmps) = true) (s x : Operand) (ho : o1.op = .call { callee := .builtin .append, args := #[s, x], argTypes := #[t, t] })
    (base : Nat) {ad : Option Addr} {n c : Nat} {os : List OptV} (hs : a.eval s = .slice ad n c) (hown : OwnOps e base v ad n c os) (o : OptV) {b : Nat} (hx : a.eval x = .slice (some ⟨b, 0, none⟩) 1 1) (hb : b = v.heap.size)
    (hnew : Bs v o.ad o.n o.c o.l) (hnb : ∀ x, o.ad = some x → base ≤ x.block ∧ x.block < v.heap.size ∧ ∀ y, ad = some y → x.block ≠ y.block) (hbase : base ≤ v.heap.size) (hn : n ≤ 1000000000)
    (h : ∀ ad' c' w', OwnOps e base w' ad' (n + 1) c' (os ++ [o]) → Below base v w' → wpList P ops Q rest (a.put o1.dst (.slice ad' (n + 1) c')) w') :
    wpList P ops Q (o1 :: rest) a (v.alloc (.cells #[.int .i64 o.code, .slice o.ad o.n o.c] e')) := by
  subst hb
  have hz : (v.alloc (.cells #[.int .i64 o.code, .slice o.ad o.n o.c] e')).heap.size = v.heap.size + 1 := by simp
  refine wpL_append el hgd s x ho base hs (hown.1.alloc _) hx (Sl.lit v #[.int .i64 o.code, .slice o.ad o.n o.c] e' 1 2 rfl (by simp [maxLen])) (fun u hu => ?_) (by unfold maxLen; omega) (by omega) (by omega) fun ad' c' w' ho' hg' hat _ => h ad' c' w' ?_ ?_
  · simp at hu
    rcases hu with rfl | rfl <;> rfl
  · have hbl : Below v.heap.size v (v.alloc (.cells #[.int .i64 o.code, .slice o.ad o.n o.c] e')) := (Below.refl _ _).alloc (Nat.le_refl _) _
    have hall : ∀ p ∈ os ++ [o], Bs v p.ad p.n p.c p.l ∧ ∀ x, p.ad = some x → base ≤ x.block ∧ x.block < v.heap.size ∧ ∀ y, ad = some y → x.block ≠ y.block := by
      intro p hp
      rcases List.mem_append.1 hp with hp | hp
      · exact hown.2 p hp
      · simp at hp
        subst hp
        exact ⟨hnew, hnb⟩
    refine ⟨?_, fun p hp => ⟨?_, fun x hx => ?_⟩⟩
    · rw [ocells_append]
      exact ho'
    · obtain ⟨h1, h2⟩ := hall p hp
      refine Sl.grown (Bs.below h1 hbl) hg' fun x hx e => ?_
      obtain ⟨_, _, h3⟩ := h2 x hx
      rcases own_form hown.1 with ⟨rfl, _⟩ | ⟨g, rfl, _⟩
      · simp [Value.ownBlock] at e
      · simp [Value.ownBlock] at e
        exact h3 _ rfl e.symm
    · obtain ⟨h1, h2⟩ := hall p hp
      obtain ⟨h3, h4, h5⟩ := h2 x hx
      have hsz := hg'.size
      refine ⟨h3, by omega, fun y hy => ?_⟩
      rcases hat with rfl | rfl
      · exact h5 y hy
      · cases hy
        show x.block ≠ (v.alloc _).heap.size
        rw [hz]
        omega
  · exact ((Below.refl base v).alloc hbase _).grown hg' (by omega) (ownBlock_ge hown.1)

theorem elO : Elem Try.prog 25 90 2 32 (.agg #[.int .i64 0, .slice none 0 0]) := ⟨Try.underlying25, by kernel_rfl, rfl, by omega⟩

theorem wpL_eqnil {P : Program} {w : World} {ops : Array Oper} {rest : List Oper} {o : Oper} {a : Act} {Q : Exit → Act → World → Prop} {t e t2 : TypeId} (ht : P.underlying t = some (.slice e))
    (hgd : Region.wanted o (yielded ops a.tmps) = true) (x : Operand) (ho : o.op = .binOp .eql t x (.const (.slice none 0 0)) t2) {ad : Option Addr} {n c : Nat} (hx : a.eval x = .slice ad n c)
    (h : wpList P ops Q rest (a.put o.dst (.bool ad.isNone)) w) : wpList P ops Q (o :: rest) a w := by
  refine wpL_run hgd (v := .bool ad.isNone) (w' := w) ?_ h
  have hr := Lib.run_eql_slice_nil (P := P) w t e ad n c 0 0 ht
  have hc : a.eval (.const (.slice none 0 0)) = .slice none 0 0 := rfl
  simp [execOp, ho, hx, hc, eqGuard, hr, Result.andThen]
set_option maxRecDepth 100000 in
theorem bclone_any (ad : Option Addr) (n c : Nat) (l : List UInt8) (w : World) (hs : Bs w ad n c l) (hsz : n ≤ 140737488351232) :
    Calls Try.prog 68 #[.slice ad n c] w (RetB 5 l w) := by
  have hn := hs.len
  have HS := Lib.hid hs
  have HN := Lib.hid hn
  cases ad with
  | none =>
    obtain ⟨h1, h2⟩ := hs.2.2.2.1 rfl
    have hl : l = [] := List.eq_nil_of_length_eq_zero (by omega)
    subst hl
    clear HS HN hs hn
    subst h1
    subst h2
    go_enter Try.func68, Try.ntmps68
    go_wp2_with ((with_reducible refine sl 4 ?_); go_must (refine wpL_eqnil Try.underlying24 rfl (.tmp 3) rfl rfl ?_); simp only [Act.put, List.setIfInBounds_toArray, List.set_cons_zero, List.set_cons_succ, Option.isNone_none])
    go_ret
    exact ⟨none, 0, rfl, World.ownsRow_nil _ _ _ _, Below.refl _ _⟩
  | some x =>
    clear hs hn
    go_enter Try.func68, Try.ntmps68
    go_wp2_with (first | ((with_reducible refine sl 4 ?_); go_must (refine wpL_eqnil Try.underlying24 rfl (.tmp 3) rfl rfl ?_); simp only [Act.put, List.setIfInBounds_toArray, List.set_cons_zero, List.set_cons_succ, Option.isNone_some]) | ((with_reducible refine sl 7 ?_); go_must (refine wpL_append elB rfl (.tmp 5) (.tmp 6) rfl w.heap.size rfl (World.ownsRow_lit (size := 1) (e := 5) w #[] 0 (Nat.le_refl _) (by simp [maxLen]) rfl) rfl (HS.out.below ((Below.refl _ _).alloc (Nat.le_refl _) _)) (BV_one _) (by unfold maxLen; omega) (by omega) (by simp) ?_); intro ad1 c1 w1 hown1 hgrow1 hat1 hnil1; simp only [PT]))
    try simp only [Nat.zero_add, List.nil_append] at hown1
    have hb1 : Below w.heap.size w w1 := ((Below.refl w.heap.size w).alloc (Nat.le_refl _) _).grown hgrow1 (by simp) (fun k e => by simp [Value.ownBlock] at e; omega)
    have HO1 := Lib.hid hown1
    have HB1 := Lib.hid hb1
    clear hown1 hgrow1 hat1 hnil1 hb1
    go_ret
    refine ⟨ad1, c1, ?_, ?_, HB1.out⟩
    · rw [← HN.out]; simp
    · rw [← HN.out]; exact HO1.out

set_option maxRecDepth 100000 in
theorem bytesEqual_any (ad : Option Addr) (n c : Nat) (l : List UInt8) (ad' : Option Addr) (n' c' : Nat) (m : List UInt8) (w : World) (hs : Bs w ad n c l) (hs' : Bs w ad' n' c' m) :
    Calls Try.prog 43 #[.slice ad n c, .slice ad' n' c'] w fun e w' => e = .returned (.bool (sameB l m)) ∧ w = w' := by
  have HS := Lib.hid hs
  have HS' := Lib.hid hs'
  clear hs hs'
  go_enter Try.func43, Try.ntmps43
  go_wp2_with (first
    | ((with_reducible refine sl 6 ?_); go_must (refine wpL_str elB.1 (by kernel_rfl) (by kernel_rfl) rfl (.tmp 5) rfl rfl HS.out ?_))
    | ((with_reducible refine sl 8 ?_); go_must (refine wpL_str elB.1 (by kernel_rfl) (by kernel_rfl) rfl (.tmp 7) rfl rfl HS'.out ?_)))
  rw [sameB_str]
  go_wp2_with fail
  go_ret
  exact ⟨rfl, rfl⟩
end Go.Proofs.Ytmfplinbbcoahaa
/-
  Chapter 25: results that lie in a variable; one step of reading options.
-/
namespace Go.Proofs.Ytmfplinbbcoahaa
open Go.RowKit Go.Sort
set_option linter.unusedVariables false
set_option linter.unusedSimpArgs false

theorem bodyPost_cell4 {P : Program} {fn : Func} {R : Ending → World → Prop} {a : Act} {w : World} {t1 t2 t3 t4 : Tmp} {T : TypeId} {g : Nat} {cs : List Value} {d : TypeDesc}
    (h : fn.results = #[.tmp t1, .tmp t2, .tmp t3, .cell t4 T]) (hp : a.tmps.getD t4 undef = .pointer (some ⟨g, 0, none⟩)) (hc : w.rangeAt g 0 cs) (hu : P.underlying T = some d) (hd : d.isRow = true) (hi : (P.info? T).map (·.size) = some cs.length)
    (hdf : a.defers = []) (hR : R (.returned (.tuple #[a.tmps.getD t1 undef, a.tmps.getD t2 undef, a.tmps.getD t3 undef, .agg cs.toArray])) w) : bodyPost P fn R .ret a w := by
  refine bodyPost_ret ?_ hdf hR
  have hp' : a.tmps[t4]?.getD undef = .pointer (some ⟨g, 0, none⟩) := by simpa using hp
  simp [results, h, hp', asAddr, run_loadVar_mid w g 0 T cs d hc hu hd hi]
theorem bodyPost_cell3 {P : Program} {fn : Func} {R : Ending → World → Prop} {a : Act} {w : World} {t1 t2 t4 : Tmp} {T : TypeId} {g : Nat} {cs : List Value} {d : TypeDesc}
    (h : fn.results = #[.tmp t1, .tmp t2, .cell t4 T]) (hp : a.tmps.getD t4 undef = .pointer (some ⟨g, 0, none⟩)) (hc : w.rangeAt g 0 cs) (hu : P.underlying T = some d) (hd : d.isRow = true) (hi : (P.info? T).map (·.size) = some cs.length)
    (hdf : a.defers = []) (hR : R (.returned (.tuple #[a.tmps.getD t1 undef, a.tmps.getD t2 undef, .agg cs.toArray])) w) : bodyPost P fn R .ret a w := by
  refine bodyPost_ret ?_ hdf hR
  have hp' : a.tmps[t4]?.getD undef = .pointer (some ⟨g, 0, none⟩) := by simpa using hp
  simp [results, h, hp', asAddr, run_loadVar_mid w g 0 T cs d hc hu hd hi]
theorem bodyPost_cell2 {P : Program} {fn : Func} {R : Ending → World → Prop} {a : Act} {w : World} {t1 t4 : Tmp} {T : TypeId} {g : Nat} {cs : List Value} {d : TypeDesc}
    (h : fn.results = #[.tmp t1, .cell t4 T]) (hp : a.tmps.getD t4 undef = .pointer (some ⟨g, 0, none⟩)) (hc : w.rangeAt g 0 cs) (hu : P.underlying T = some d) (hd : d.isRow = true) (hi : (P.info? T).map (·.size) = some cs.length)
    (hdf : a.defers = []) (hR : R (.returned (.tuple #[a.tmps.getD t1 undef, .agg cs.toArray])) w) : bodyPost P fn R .ret a w := by
  refine bodyPost_ret ?_ hdf hR
  have hp' : a.tmps[t4]?.getD undef = .pointer (some ⟨g, 0, none⟩) := by simpa using hp
  simp [results, h, hp', asAddr, run_loadVar_mid w g 0 T cs d hc hu hd hi]

/-- a spot, in memory -/
def spotC (p : Nat × Int) : List Value := [.int .i64 (p.1 : Int), .int .i64 p.2]
/-- a spot is stored in block g -/
theorem wpL_storeS {P : Program} {ops : Array Oper} {rest : List Oper} {o : Oper} {a : Act} {w : World} {Q : Exit → Act → World → Prop} (hgd : o.guard = none) (ty : TypeId) (x y : Operand) (ho : o.op = .store ty x y)
    (g : Nat) (p : Nat × Int) (hx : a.eval x = .pointer (some ⟨g, 0, none⟩)) (hy : a.eval y = .agg (spotC p).toArray) {T : TypeId} {q : Nat × Int} (hg : w.heap[g]? = some (.cells (spotC q).toArray T (0, 0))) (hi : (P.info? ty).map (·.size) = some 2)
    (h : ∀ w1, w1.heap[g]? = some (.cells (spotC p).toArray T (0, 0)) → w.grownBy w1 (some g) → wpList P ops Q rest (a.put o.dst undef) w1) : wpList P ops Q (o :: rest) a w := by
  refine wpList_store_row hgd ty x y ho g (spotC p).toArray hx hy T _ hg hi rfl ?_ (h _ (setRow_heap w g _ _ T _ hg) ⟨rfl, rfl, rfl, by simp [World.setRow], fun k _ hk => setRow_other w g k _ (fun e => hk (by rw [e]))⟩)
  simp only [spotC, List.all_toArray, List.all_cons, List.all_nil, Bool.and_true, Bool.and_eq_true]
  exact ⟨rfl, rfl⟩

theorem Bs.part {w : World} {ad : Option Addr} {n c : Nat} {l : List UInt8} (h : Bs w ad n c l) (i j : Nat) (hij : i ≤ j) (hj : j ≤ n) : Bs w (subAd ad c i 1) (j - i) (c - i) ((l.drop i).take (j - i)) := by
  have := Sl.sub h (l := i) (h := j) hij hj
  have e : ((BV l).drop (i * 1)).take ((j - i) * 1) = BV ((l.drop i).take (j - i)) := by
    simp only [Nat.mul_one]
    unfold BV
    rw [List.map_take, List.map_drop]
  rw [e] at this
  exact this
theorem getN_two_lt (l : List UInt8) (big : Bool) (h : l.length ≤ 2) : getN l big ≤ 65535 := by
  have h1 : ∀ m : List UInt8, m.length ≤ 2 → numBE m ≤ 65535 := fun m hm => by
    have h2 := numBE_lt m
    have h3 : 256 ^ m.length ≤ 256 ^ 2 := Nat.pow_le_pow_right (by omega) hm
    omega
  unfold getN
  split
  · exact h1 _ (by simp; omega)
  · exact h1 _ (by simp; omega)
theorem rows_step (big : Bool) (l : List UInt8) (at_ : Nat) (acc : List OV) (h : at_ < l.length) :
    rowsS big l.length (l.drop at_) at_ acc =
      if l.length - at_ < 4 then ([], 0, false, (at_, 2))
      else if codeOf big (l.drop at_) = 0 ∧ sizeOf2 big (l.drop at_) = 0 then (acc, at_ + 4, true, (0, 0))
      else if codeOf big (l.drop at_) = 0 then ([], 0, false, (at_, 3))
      else if l.length - at_ < 4 + sizeOf2 big (l.drop at_) + padN (sizeOf2 big (l.drop at_)) then ([], 0, false, (at_, 2))
      else rowsS big l.length (l.drop (at_ + (4 + sizeOf2 big (l.drop at_) + padN (sizeOf2 big (l.drop at_))))) (at_ + (4 + sizeOf2 big (l.drop at_) + padN (sizeOf2 big (l.drop at_)))) (acc ++ [((codeOf big (l.drop at_) : Int), ((l.drop at_).drop 4).take (sizeOf2 big (l.drop at_)))]) := by
  have hd : (l.drop at_).length = l.length - at_ := List.length_drop
  rw [rowsS_fuel big l.length ((l.length - 1) + 1) _ _ _ (by omega) (by omega), rowsS, hd, if_neg (by omega)]
  split
  · rfl
  · split
    · rfl
    · split
      · rfl
      · split
        · rfl
        · rw [List.drop_drop]
          exact rowsS_fuel big _ _ _ _ _ (by rw [List.length_drop]; omega) (by rw [List.length_drop]; omega)
theorem rows_end (big : Bool) (l : List UInt8) (at_ : Nat) (acc : List OV) (h : ¬ at_ < l.length) : rowsS big l.length (l.drop at_) at_ acc = (acc, at_, false, (0, 0)) := by
  rw [List.drop_of_length_le (by omega), rowsS_nil]
theorem codeOf_le (big : Bool) (s : List UInt8) : codeOf big s ≤ 65535 := getN_two_lt _ _ (by simp; omega)
theorem sizeOf2_le (big : Bool) (s : List UInt8) : sizeOf2 big s ≤ 65535 := getN_two_lt _ _ (by simp; omega)
end Go.Proofs.Ytmfplinbbcoahaa
