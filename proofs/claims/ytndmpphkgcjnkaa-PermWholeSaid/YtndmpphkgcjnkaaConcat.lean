/-
  slices.Grow of nil, slices.Concat: of bytes.
-/
import Derived.Test.YtndmpphkgcjnkaaCarry
import Derived.Lib.AppendZeros
namespace Go.Proofs.Ytndmpphkgcjnkaa
open Go.RowKit Go.Sort
set_option linter.unusedVariables false

set_option maxRecDepth 100000 in
set_option maxHeartbeats 1000000 in
theorem grow_nil (n : Nat) (w : World) (hn : n ≤ 140737488351232) :
    Calls Try.prog 31 #[.slice none 0 0, .int .i64 n] w fun e w' => ∃ ad c, e = .returned (.slice ad 0 c) ∧ w'.ownsRow w.heap.size 5 1 (.slice ad 0 c) 0 [] ∧ Below w.heap.size w w' := by
  by_cases h0 : n = 0
  · subst h0
    go_enter Try.func31, Try.ntmps31
    go_wp2
    go_ret
    exact ⟨none, 0, rfl, World.ownsRow_nil _ _ _ _, Below.refl _ _⟩
  · obtain ⟨i, hi, hz, hsize, hby⟩ := info_parts elB.info
    have hpos : (0 : Int) < n := by omega
    have hr := fun ty => Lib.run_append_nil_zeros (P := Try.prog) w 42 3 ty 5 i _ .i64 .i64 elB.ht Try.underlying3 hi hz n (by omega) (by omega) (by omega) (by rw [hby]; omega)
    have HR := Lib.hid hr
    clear hr
    go_enter Try.func31, Try.ntmps31
    go_wp2_with (first
      | ((with_reducible show wpList _ _ _ (⟨some 22, _, _, _, _, _⟩ :: _) _ _); go_must (refine Lib.wpList_append_run _ rfl _ _ _ _ rfl _ _ rfl rfl _ _ (HR.out _) ?_)))
    go_ret
    have hge := grownCap_ge w n 0 5
    refine ⟨some ⟨w.heap.size, 0, none⟩, grownCap w n 0 5, rfl, ⟨by simp, .inr ⟨w.heap.size, _, _, rfl, Nat.le_refl _, heap_alloc_new _ _, Nat.zero_le _, grownCap_le_maxLen _ _ _ _ (by unfold maxLen; omega), ?_, by simp⟩⟩, ((Below.refl _ _).alloc (Nat.le_refl _) _).drew⟩
    simp [Builtin.zeroCells]
    omega

/-- parts of bytes, one behind the other in a slice of slices -/
def Pts (w : World) (ad : Option Addr) (m c : Nat) (ps : List (Option Addr × Nat × Nat × List UInt8)) : Prop :=
  Sl w ad m c 1 (ps.map fun p => .slice p.1 p.2.1 p.2.2.1) ∧ ∀ p ∈ ps, Bs w p.1 p.2.1 p.2.2.1 p.2.2.2
/-- all bytes of parts -/
def flat (ps : List (Option Addr × Nat × Nat × List UInt8)) : List UInt8 := (ps.map (·.2.2.2)).flatten
theorem flat_snoc (ps : List (Option Addr × Nat × Nat × List UInt8)) (p : Option Addr × Nat × Nat × List UInt8) : flat (ps ++ [p]) = flat ps ++ p.2.2.2 := by simp [flat]
theorem flat_take (ps : List (Option Addr × Nat × Nat × List UInt8)) (k : Nat) (h : k < ps.length) : flat (ps.take (k + 1)) = flat (ps.take k) ++ ps[k].2.2.2 := by
  rw [List.take_add_one, List.getElem?_eq_getElem h, Option.toList_some, flat_snoc]
theorem flat_take_le (ps : List (Option Addr × Nat × Nat × List UInt8)) (k : Nat) : (flat (ps.take k)).length ≤ (flat ps).length := by
  have : flat ps = flat (ps.take k) ++ flat (ps.drop k) := by
    unfold flat
    rw [← List.flatten_append, ← List.map_append, List.take_append_drop]
  rw [this, List.length_append]
  omega
theorem Pts.below {w w' : World} {ad : Option Addr} {m c : Nat} {ps : List (Option Addr × Nat × Nat × List UInt8)} (h : Pts w ad m c ps) (hb : Below w.heap.size w w') : Pts w' ad m c ps :=
  ⟨h.1.below hb, fun p hp => (h.2 p hp).below hb⟩

set_option maxRecDepth 100000 in
set_option maxHeartbeats 1000000 in
theorem concat_any (ad : Option Addr) (m c : Nat) (ps : List (Option Addr × Nat × Nat × List UInt8)) (w : World) (hp : Pts w ad m c ps) (hsz : (flat ps).length ≤ 140737488351232) :
    Calls Try.prog 24 #[.slice ad m c] w (RetB 5 (flat ps) w) := by
  have hm : m = ps.length := by have := hp.1.len; simp at this; omega
  have hmc := hp.1.le
  have hcm : c ≤ 9223372036854775807 := by have := hp.1.2.2.1; simp [maxLen] at this; omega
  have HP := Lib.hid hp
  have HM := Lib.hid hm
  clear hp hm
  go_enter Try.func24, Try.ntmps24
  go_wp2
  go_loop [3, 11] (fun n i => ∃ k : Nat, k ≤ m ∧ i = .int .i64 k ∧ n = .int .i64 ((flat (ps.take k)).length : Nat)) (fun _ i => m - (intOf i).toNat)
  case atStart => exact ⟨0, Nat.zero_le _, rfl, by simp [flat]⟩
  case round =>
    obtain ⟨k, hk, rfl, rfl⟩ := hrel
    by_cases hlt : k < m
    · have hk2 : k < ps.length := by have := HM.out; omega
      obtain ⟨b, off, rfl, _, hcc⟩ := HP.out.1.at (j := k) (by simpa using hk2)
      have hcx := hcc k (by simpa using hk2)
      simp only [List.getElem_map] at hcx
      have hl := (HP.out.2 ps[k] (List.getElem_mem hk2)).len
      have hst := flat_take ps k hk2
      have hle := flat_take_le ps (k + 1)
      generalize ps[k] = p at *
      obtain ⟨pa, pn, pc, pl⟩ := p
      simp only at hcx hl hst
      rw [hst, List.length_append, ← hl] at hle
      have HST := Lib.hid hst
      have HL := Lib.hid hl
      generalize hq : (flat (ps.take k)).length = q at *
      have HQ := Lib.hid hq
      clear hst hcc hl hq
      go_wp2_with fail
      go_round
      case rel => exact ⟨k + 1, by omega, by go_num, by rw [HST.out, List.length_append, ← HL.out, HQ.out]; go_num⟩
      case measure => simp [intOf]; omega
    · obtain rfl : k = m := by omega
      have hall : flat (ps.take k) = flat ps := by rw [List.take_of_length_le (by have := HM.out; omega)]
      rw [hall]
      have HF := Lib.hid hsz
      clear hall
      go_wp2_with (go_at_call 31; refine (grow_nil _ _ hsz).mono ?_; rintro e w1 ⟨ad1, c1, rfl, ho1, hb1⟩; have HO1 := Lib.hid ho1; have HB1 := Lib.hid hb1; clear ho1 hb1)
      go_loopw [6, 27] (fun v i wr => ∃ (j : Nat) (ad' : Option Addr) (c' : Nat), j ≤ k ∧ i = .int .i64 j ∧ v = .slice ad' (flat (ps.take j)).length c' ∧ wr.ownsRow w.heap.size 5 1 (.slice ad' (flat (ps.take j)).length c') (flat (ps.take j)).length (BV (flat (ps.take j))) ∧ Below w.heap.size w wr) (fun _ i _ => k - (intOf i).toNat)
      case atStart => exact ⟨0, ad1, c1, Nat.zero_le _, rfl, by simp [flat], by simpa [flat, BV] using HO1.out, HB1.out⟩
      case round =>
        obtain ⟨j, ad2, c2, hj, rfl, rfl, ho, hb⟩ := hrel
        have HO := Lib.hid ho
        have HB := Lib.hid hb
        clear HO1 HB1
        by_cases hlt2 : j < k
        · have hk2 : j < ps.length := by have := HM.out; omega
          have HP2 := Lib.hid (HP.out.below hb)
          obtain ⟨b, off, rfl, _, hcc⟩ := HP2.out.1.at (j := j) (by simpa using hk2)
          have hcx := hcc j (by simpa using hk2)
          simp only [List.getElem_map] at hcx
          have hbs := HP2.out.2 ps[j] (List.getElem_mem hk2)
          have hl := hbs.len
          have hst := flat_take ps j hk2
          have hle := flat_take_le ps (j + 1)
          generalize ps[j] = p at *
          obtain ⟨pa, pn, pc, pl⟩ := p
          simp only at hcx hl hst hbs
          rw [hst, List.length_append, ← hl] at hle
          have HST := Lib.hid hst
          have HL := Lib.hid hl
          have HBS := Lib.hid hbs
          have HLE := Lib.hid hle
          obtain ⟨F, hF⟩ : ∃ F, F = flat (ps.take j) := ⟨_, rfl⟩
          rw [← hF] at HO HST HLE ⊢
          clear hst hcc hl hbs hle ho hb hF
          go_wp2_with (((with_reducible show wpList _ _ _ (⟨some 33, _, _, _, _, _⟩ :: _) _ _); go_must (refine wpL_append elB rfl (.tmp 31) (.tmp 32) rfl w.heap.size rfl HO.out rfl HBS.out (BV_one _) (by have := HLE.out; unfold maxLen; omega) (by have := HLE.out; omega) HB.out.size ?_)))
          intro ad3 c3 w3 hown3 hgrow3 hat3 hnil3
          have HO3 := Lib.hid hown3
          have HB3 : Hid (Below w.heap.size w w3) := Lib.hid (HB.out.grown hgrow3 HB.out.size (ownBlock_ge HO.out))
          clear hown3 hgrow3 hat3 hnil3
          go_wp2_with fail
          go_roundw
          case rel => exact ⟨j + 1, ad3, c3, by omega, by go_num, by rw [HST.out, List.length_append, ← HL.out], by rw [HST.out, List.length_append, ← HL.out, BV_append]; exact HO3.out, HB3.out⟩
          case measure => simp [intOf]; omega
        · obtain rfl : j = k := by omega
          have hall : flat (ps.take j) = flat ps := by rw [List.take_of_length_le (by have := HM.out; omega)]
          rw [hall] at HO ⊢
          clear ho hb hall
          go_wp2_with fail
          go_ret
          exact ⟨ad2, c2, rfl, HO.out, HB.out⟩
end Go.Proofs.Ytndmpphkgcjnkaa
