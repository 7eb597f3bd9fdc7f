/-
  Chapter 25: options laid by the document, walked.
-/
import Derived.Test.YtmigbcoobbcahaaOpt2
import Derived.Test.YtmigbcoobbcahaaOctet4
namespace Go.Proofs.Ytmigbcoobbcahaa
open Go.RowKit Go.Sort
set_option linter.unusedVariables false

/-- 'append(s, x...)' of bytes, s the call's own. -/
theorem wpL_appB {P : Program} {w : World} {ops : Array Oper} {rest : List Oper} {o : Oper} {a : Act} {Q : Exit → Act → World → Prop} {t e : TypeId} {z : Value} (el : Elem P t e 1 1 z)
    (hgd : Region.wanted o (yielded ops a.tmps) = true) (s x : Operand) (ho : o.op = .call { callee := .builtin .append, args := #[s, x], argTypes := #[t, t] })
    (base : Nat) {ad : Option Addr} {n c : Nat} {l : List UInt8} (hs : a.eval s = .slice ad n c) (hown : w.ownsRow base e 1 (.slice ad n c) n (BV l))
    {ad2 : Option Addr} {m c2 : Nat} {news : List UInt8} (hx : a.eval x = .slice ad2 m c2) (hsl : Bs w ad2 m c2 news)
    (h63 : n + m ≤ 140737488351232) (hbase : base ≤ w.heap.size)
    (h : ∀ ad' c' w', w'.ownsRow base e 1 (.slice ad' (n + m) c') (n + m) (BV (l ++ news)) → Below base w w' → wpList P ops Q rest (a.put o.dst (.slice ad' (n + m) c')) w') :
    wpList P ops Q (o :: rest) a w := by
  refine wpL_append el hgd s x ho base hs hown hx hsl (BV_one _) (by unfold maxLen; omega) (by omega) hbase fun ad' c' w' ho' hg' hat _ => h ad' c' w' ?_ ?_
  · rw [BV_append]; exact ho'
  · exact (Below.refl base w).grown hg' hbase (ownBlock_ge hown)
theorem Below.cellAt {w w' : World} {b off : Nat} {v : Value} (h : w.cell? ⟨b, off, none⟩ = some v) (hb : Below w.heap.size w w') (hl : b < w.heap.size) : w'.cell? ⟨b, off, none⟩ = some v :=
  (hb.cell (p := ⟨b, off, none⟩) hl).trans h

set_option maxRecDepth 100000 in
set_option maxHeartbeats 2000000 in
theorem refOptPut_any (ad : Option Addr) (n c : Nat) (os : List OptV) (big : Bool) (w : World) (hs : Ops w ad n c os) (hsz : sizeO (vals os) + 4 ≤ 140000000000000) (hok : ∀ o ∈ vals os, okO o) :
    Calls Try.prog 13 #[.slice ad n c, .bool big] w (RetB 5 (putAll big (vals os)) w) := by
  have hn := hs.len
  have hle := hs.le
  have HS := Lib.hid hs
  have HN := Lib.hid hn
  clear hs hn
  go_enter Try.func13, Try.ntmps13
  go_wp2_with fail
  go_loopw [5, 6] (fun v i wr => ∃ (k : Nat) (ad' : Option Addr) (n' c' : Nat), k ≤ n ∧ i = .int .i64 k ∧ v = .slice ad' n' c' ∧ Hid (n' = sizeO ((vals os).take k)) ∧ wr.ownsRow w.heap.size 5 1 (.slice ad' n' c') n' (BV (putO big ((vals os).take k))) ∧ Below w.heap.size w wr) (fun _ i _ => n - (intOf i).toNat)
  case atStart => exact ⟨0, none, 0, 0, by omega, rfl, rfl, Lib.hid rfl, World.ownsRow_nil _ _ _ _, Below.refl _ _⟩
  case round =>
    obtain ⟨k, ad1, n1, c1, hk, rfl, rfl, HN1, ho, hb⟩ := hrel
    have HO := Lib.hid ho
    have HB := Lib.hid hb
    have hn := HN.out
    by_cases hlt : k < n
    · obtain ⟨b, off, rfl, hbl, hat⟩ := HS.out.at (j := k) (by omega)
      obtain ⟨q1, q2, hbs⟩ := hat k (by omega)
      have hon := hbs.len
      have hol := hbs.le
      obtain ⟨o, hoe⟩ : ∃ o, o = os[k]'(by omega) := ⟨_, rfl⟩
      rw [← hoe] at q1 q2 hon hol hbs
      have hkl : k < (vals os).length := by rw [vals_length]; omega
      have hval : (vals os)[k] = (o.code, o.l) := by rw [vals_get _ _ (by omega), ← hoe]; rfl
      have hok1 : okO (o.code, o.l) := by rw [← hval]; exact hok _ (List.getElem_mem hkl)
      obtain ⟨k1, k2, k3⟩ := hok1
      dsimp only at k1 k2 k3
      have HP := Lib.hid (putO_take big (vals os) k hkl)
      rw [hval] at HP
      dsimp only at HP
      have hz2 : n1 + (4 + o.n + padN o.n) = sizeO ((vals os).take (k + 1)) := by
        rw [sizeO_take _ _ hkl, hval, HN1.out, hon]
        rfl
      have hz3 : n1 + (4 + o.n + padN o.n) ≤ 139999999999996 := by
        have := sizeO_take_le (vals os) (k + 1)
        omega
      have hz4 : n1 % 4 = 0 := by rw [HN1.out]; exact sizeO_mod _
      have HZ4 := Lib.hid hz4
      have HZ2 := Lib.hid hz2
      have HBS := Lib.hid hbs
      have HON := Lib.hid hon
      have Q1 := Lib.hid q1
      have Q2 := Lib.hid q2
      have q1 := Below.cellAt Q1.out HB.out hbl
      have q2 := Below.cellAt Q2.out HB.out hbl
      obtain ⟨l1, hl1⟩ : ∃ l, l = putL o.code.toNat 2 big := ⟨_, rfl⟩
      obtain ⟨l2, hl2⟩ : ∃ l, l = putL o.n 2 big := ⟨_, rfl⟩
      have g1 : l1.length = 2 := by rw [hl1, putL2_length]
      have g2 : l2.length = 2 := by rw [hl2, putL2_length]
      have HL1 := Lib.hid hl1
      have HL2 := Lib.hid hl2
      have HP2 := Lib.hid (show putO big ((vals os).take (k + 1)) = putO big ((vals os).take k) ++ l1 ++ l2 ++ o.l ++ List.replicate (padN o.n) 0 by rw [HP.out, hl1, hl2, HON.out]; simp only [padL, List.append_assoc])
      have hp3 := padN_le o.n
      have hon2 : o.n ≤ 65535 := by omega
      clear hl1 hl2 HP hat hoe hz2 hz4 hb ho hbs hkl hval hon hn k3
      go_wp2_with (first
        | (go_at_call 24; (with_reducible show Calls _ _ #[Value.int .u64 o.code, _, _] _ _); go_must (refine (refPut_int o.code 2 big _ (by omega) (by omega)).mono ?_); intro e w5 hr5; unfold RetB at hr5; rw [← HL1.out] at hr5; obtain ⟨ad5, c5, rfl, ho5, hb5⟩ := hr5; rw [g1] at ho5; have hE__ := cU HB (by repeat (first | exact Below.refl _ _ | refine Below.drew ?_ | refine Below.trans ?_ (below_drewN _ _ _) | refine Below.alloc ?_ (by first | exact Nat.le_refl _ | (simp; done) | (simp; omega)) _)) hb5; (first | replace HB := cK1 HB hE__); (first | replace HO := cB1 HO hE__ | replace HO := cO1 HO hE__ | replace HO := cG1 HO hE__ | replace HO := cW1 HO hE__ | replace HO := cV1 HO hE__ | replace HO := cP1 HO hE__ | replace HO := cK1 HO hE__); clear hE__; have H1 := Lib.hid (Bs.of_own ho5); clear q1 q2 hb5 ho5; have q1 := Below.cellAt Q1.out HB.out hbl; have q2 := Below.cellAt Q2.out HB.out hbl)
        | ((with_reducible show wpList _ _ _ (⟨some 22, _, _, _, _, _⟩ :: _) _ _); go_must (refine wpL_appB elB rfl (.tmp 13) (.tmp 21) rfl w.heap.size rfl HO.out rfl H1.out (by omega) HB.out.size ?_); intro ad3 c3 w3 ho3 hb3; clear HO; have HO := Lib.hid ho3; have HB3 := Lib.hid (HB.out.trans hb3); clear HB; have HB := HB3; clear HB3 q1 q2 ho3 hb3 H1; have q1 := Below.cellAt Q1.out HB.out hbl; have q2 := Below.cellAt Q2.out HB.out hbl; simp only [Act.put, List.setIfInBounds_toArray, List.set_cons_zero, List.set_cons_succ])
        | (go_at_call 24; (with_reducible show Calls _ _ #[Value.int .u64 (o.n : Int), _, _] _ _); go_must (refine (refPut_any o.n 2 big _ (by omega)).mono ?_); intro e w6 hr6; unfold RetB at hr6; rw [← HL2.out] at hr6; obtain ⟨ad6, c6, rfl, ho6, hb6⟩ := hr6; rw [g2] at ho6; have hE__ := cU HB (by repeat (first | exact Below.refl _ _ | refine Below.drew ?_ | refine Below.trans ?_ (below_drewN _ _ _) | refine Below.alloc ?_ (by first | exact Nat.le_refl _ | (simp; done) | (simp; omega)) _)) hb6; (first | replace HB := cK1 HB hE__); (first | replace HO := cB1 HO hE__ | replace HO := cO1 HO hE__ | replace HO := cG1 HO hE__ | replace HO := cW1 HO hE__ | replace HO := cV1 HO hE__ | replace HO := cP1 HO hE__ | replace HO := cK1 HO hE__); clear hE__; have H2 := Lib.hid (Bs.of_own ho6); clear q1 q2 hb6 ho6; have q1 := Below.cellAt Q1.out HB.out hbl; have q2 := Below.cellAt Q2.out HB.out hbl)
        | ((with_reducible show wpList _ _ _ (⟨some 33, _, _, _, _, _⟩ :: _) _ _); go_must (refine wpL_appB elB rfl (.tmp 23) (.tmp 32) rfl w.heap.size rfl HO.out rfl H2.out (by omega) HB.out.size ?_); intro ad3 c3 w3 ho3 hb3; clear HO; have HO := Lib.hid ho3; have HB3 := Lib.hid (HB.out.trans hb3); clear HB; have HB := HB3; clear HB3 q1 q2 ho3 hb3 H2; have q1 := Below.cellAt Q1.out HB.out hbl; have q2 := Below.cellAt Q2.out HB.out hbl; simp only [Act.put, List.setIfInBounds_toArray, List.set_cons_zero, List.set_cons_succ])
        | ((with_reducible show wpList _ _ _ (⟨some 40, _, _, _, _, _⟩ :: _) _ _); go_must (refine wpL_appB elB rfl (.tmp 34) (.tmp 39) rfl w.heap.size rfl HO.out rfl (HBS.out.below HB.out) (by omega) HB.out.size ?_); intro ad3 c3 w3 ho3 hb3; clear HO; have HO := Lib.hid ho3; have HB3 := Lib.hid (HB.out.trans hb3); clear HB; have HB := HB3; clear HB3 q1 q2 ho3 hb3; simp only [Act.put, List.setIfInBounds_toArray, List.set_cons_zero, List.set_cons_succ]))
      go_loopw [5] (fun v wr2 => ∃ (j : Nat) (ad' : Option Addr) (m c' : Nat), j ≤ padN o.n ∧ v = .slice ad' m c' ∧ Hid (m = n1 + 2 + 2 + o.n + j) ∧ wr2.ownsRow w.heap.size 5 1 (.slice ad' m c') m (BV (putO big ((vals os).take k) ++ l1 ++ l2 ++ o.l ++ List.replicate j 0)) ∧ Below w.heap.size w wr2) (fun v _ => n1 + 4 + o.n + padN o.n - lenV v)
      case atStart => exact ⟨0, ad3, n1 + 2 + 2 + o.n, c3, by omega, rfl, Lib.hid rfl, by rw [List.replicate_zero, List.append_nil]; exact HO.out, HB.out⟩
      case round =>
        obtain ⟨j, ad2, m, c2, hj, rfl, HM, ho, hb⟩ := hrel
        clear HO HB
        have HO := Lib.hid ho
        have HB := Lib.hid hb
        have hmb : m ≤ 139999999999996 := by have := HM.out; omega
        clear ho hb
        by_cases h4 : (m : Int) % 4 = 0
        · have hj2 : j = padN o.n := padN_end o.n j (by have := HM.out; have := HZ4.out; omega) hj
          have HJ := Lib.hid hj2
          clear hj2
          go_wp2_with fail
          go_roundw
          case rel => exact ⟨k + 1, ad2, m, c2, by omega, by go_num, rfl, Lib.hid (by rw [HM.out, ← HZ2.out, HJ.out]; omega), by rw [HP2.out, ← HJ.out]; exact HO.out, HB.out⟩
          case measure => simp [intOf]; omega
        · have hj2 : j < padN o.n := padN_more o.n j (by have := HM.out; have := HZ4.out; omega) hj
          go_wp2_with (first
            | ((with_reducible show wpList _ _ _ (⟨some 47, _, _, _, _, _⟩ :: _) _ _); go_must (refine wpL_push elB rfl (.tmp 45) (.tmp 46) rfl w.heap.size rfl HO.out _ 1 rfl rfl rfl (BV_one [0]) (by omega) (by omega) (by omega) HB.out.size HB.out (Nat.le_refl _) ?_); intro ad3 c3 w3 ho3 hb3 hg3; clear hg3 HO; have HO := Lib.hid ho3; clear HB; have HB := Lib.hid hb3; clear ho3 hb3; simp only [Act.put, List.setIfInBounds_toArray, List.set_cons_zero, List.set_cons_succ]))
          go_roundw
          case rel => exact ⟨j + 1, ad3, m + 1, c3, by omega, rfl, Lib.hid (by rw [HM.out]; omega), by rw [List.replicate_succ', ← List.append_assoc, BV_append]; exact HO.out, HB.out⟩
          case measure => simp only [lenV]; have := HM.out; omega
    · have hall : (vals os).take k = vals os := List.take_of_length_le (by rw [vals_length]; omega)
      rw [hall] at HO HN1
      have hpl := putO_length big (vals os)
      have HPL := Lib.hid hpl
      have hnb : n1 ≤ 139999999999996 := by have := HN1.out; omega
      by_cases h0 : n = 0
      · have h1 : ¬ ((0 : Int) < (n : Int)) := by omega
        have he : putAll big (vals os) = putO big (vals os) := by
          have : vals os = [] := List.eq_nil_of_length_eq_zero (by rw [vals_length]; omega)
          rw [this]; rfl
        have HE := Lib.hid he
        clear he hn h0 hall ho hb hpl
        go_wp2_with fail
        go_ret
        refine ⟨ad1, c1, ?_, ?_, HB.out⟩
        · rw [HE.out, HPL.out, ← HN1.out]; rfl
        · rw [HE.out, HPL.out, ← HN1.out]; exact HO.out
      · have h1 : ((0 : Int) < (n : Int)) := by omega
        have he : putAll big (vals os) = putO big (vals os) ++ [0, 0, 0, 0] := by
          have : vals os ≠ [] := fun e => by have := congrArg List.length e; rw [vals_length] at this; simp at this; rw [this] at hn; simp at hn; exact h0 hn
          unfold putAll endO
          rw [if_neg (by simpa using this)]
        have HE := Lib.hid he
        clear he hn h0 hall ho hb hpl
        go_wp2_with (first
          | ((with_reducible show wpList _ _ _ (⟨some 53, _, _, _, _, _⟩ :: _) _ _); go_must (refine wpL_push elB rfl (.tmp 51) (.tmp 52) rfl w.heap.size rfl HO.out _ 4 rfl rfl rfl (BV_one [0, 0, 0, 0]) (by omega) (by omega) (by omega) HB.out.size HB.out (Nat.le_refl _) ?_); intro ad3 c3 w3 ho3 hb3 hg3; clear hg3 HO; have HO := Lib.hid ho3; clear HB; have HB := Lib.hid hb3; clear ho3 hb3; simp only [Act.put, List.setIfInBounds_toArray, List.set_cons_zero, List.set_cons_succ]))
        go_ret
        refine ⟨ad3, c3, ?_, ?_, HB.out⟩
        · rw [HE.out, List.length_append, HPL.out, ← HN1.out]; rfl
        · rw [HE.out, List.length_append, HPL.out, ← HN1.out, BV_append]; exact HO.out
end Go.Proofs.Ytmigbcoobbcahaa
