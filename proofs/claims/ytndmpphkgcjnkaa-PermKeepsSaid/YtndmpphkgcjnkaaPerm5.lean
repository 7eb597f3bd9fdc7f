/-
  Chapter 16: all choices, walked.
-/
import Derived.Test.YtndmpphkgcjnkaaPerm4
namespace Go.Proofs.Ytndmpphkgcjnkaa
open Go.RowKit Go.Sort
set_option linter.unusedVariables false

theorem elI : Elem Try.prog 32 3 1 8 (.int .i64 0) := ⟨Try.underlying32, by kernel_rfl, rfl, by omega⟩
/-- the cells of numbers -/
def NV (l : List Nat) : List Value := l.map fun n : Nat => Value.int .i64 (n : Int)
theorem NV_length (l : List Nat) : (NV l).length = l.length := by simp [NV]
theorem NV_append (l m : List Nat) : NV (l ++ m) = NV l ++ NV m := by simp [NV]
theorem NV_one (l : List Nat) : ∀ u ∈ NV l, u.oneCell' = true := by
  intro u hu
  obtain ⟨x, _, rfl⟩ := List.mem_map.1 hu
  rfl
theorem NV_set (l : List Nat) (i n : Nat) : (NV l).set i (.int .i64 (n : Int)) = NV (l.set i n) := by simp [NV, List.map_set]

def allN (off skip size : Nat) : List Nat := (List.range size).map (choiceN off skip size)
def allTo (off skip size k : Nat) : List Nat := (List.range size).map fun i => if i < k then choiceN off skip size i else 0
theorem allTo_zero (off skip size : Nat) : NV (allTo off skip size 0) = List.replicate size (.int .i64 0) := by
  apply List.ext_getElem
  · simp [NV, allTo]
  · intro i h1 h2
    simp [NV, allTo]
theorem allTo_succ (off skip size k : Nat) (h : k < size) : (allTo off skip size k).set k (choiceN off skip size k) = allTo off skip size (k + 1) := by
  apply List.ext_getElem
  · simp [allTo]
  · intro i h1 h2
    simp only [allTo, List.length_set, List.length_map, List.length_range] at h1
    simp only [List.getElem_set, allTo, List.getElem_map, List.getElem_range]
    by_cases e : k = i
    · subst e; simp
    · rw [if_neg e]
      by_cases e2 : i < k
      · rw [if_pos e2, if_pos (by omega)]
      · rw [if_neg e2, if_neg (by omega)]
theorem allTo_all (off skip size : Nat) : allTo off skip size size = allN off skip size := by
  unfold allTo allN
  refine List.map_congr_left fun i hi => ?_
  rw [if_pos (by simpa using hi)]
def atN (off skip size k : Nat) : Nat := (off + k * skip) % size
theorem atN_choice (off skip size k : Nat) (h : k < size) : choiceN off skip size k = atN off skip size k := by
  unfold choiceN atN
  rw [Nat.mod_eq_of_lt h]
theorem atN_succ (off skip size k : Nat) (h0 : 0 < size) (hs : skip < size) : atN off skip size (k + 1) = if size ≤ atN off skip size k + skip then atN off skip size k + skip - size else atN off skip size k + skip := by
  unfold atN
  have hl := Nat.mod_lt (off + k * skip) h0
  have e : (off + (k + 1) * skip) % size = ((off + k * skip) % size + skip) % size := by
    rw [Nat.add_mul, Nat.one_mul, ← Nat.add_assoc, Nat.mod_add_mod]
  rw [e]
  split
  · rename_i h
    rw [Nat.mod_eq_sub_mod h, Nat.mod_eq_of_lt (by omega)]
  · rename_i h
    exact Nat.mod_eq_of_lt (by omega)

/-- what is answered: numbers in memory of its own -/
def RetI (size : Nat) (l : List Nat) (w : World) (e : Ending) (w' : World) : Prop :=
  ∃ ad c, e = .returned (.slice ad size c) ∧ w'.ownsRow w.heap.size 3 1 (.slice ad size c) size (NV l) ∧ Below w.heap.size w w'

set_option maxRecDepth 100000 in
set_option maxHeartbeats 1000000 in
theorem all_any (kb : List UInt8) (hkb : kb.length = 16) (s : ByteArray) (hs : s.size ≤ 999999) (size : Nat) (h2 : 2 ≤ size) (h3 : size ≤ 65537) (w : World) :
    Calls Try.prog 17 #[.agg (BV kb).toArray, .string s, .int .i64 (size : Int)] w (RetI size (allN (offN kb s size) (skipN kb s size) size) w) := by
  obtain ⟨w1, hw1⟩ : ∃ w1, w1 = w.alloc (.cells (BV kb).toArray 28) := ⟨_, rfl⟩
  have HB := Lib.hid (show Below w.heap.size w w1 by rw [hw1]; exact (by repeat (first | exact Below.refl _ _ | refine Below.drew ?_ | refine Below.trans ?_ (below_drewN _ _ _) | refine Below.alloc ?_ (by first | exact Nat.le_refl _ | (simp; done) | (simp; omega)) _)))
  have HR := Lib.hid (show w1.rangeAt w.heap.size 0 (BV kb) by rw [hw1]; exact range_last rfl)
  have HW := Lib.hid hw1
  have HI : Hid ((Try.prog.info? 28).map (·.size) = some (BV kb).length) := Lib.hid (by rw [BV_length, hkb]; kernel_rfl)
  have HB1 := Lib.hid (Below.refl w1.heap.size w1)
  obtain ⟨A, hA⟩ : ∃ A, A = offN kb s size := ⟨_, rfl⟩
  obtain ⟨B, hB⟩ : ∃ B, B = skipN kb s size := ⟨_, rfl⟩
  have hAl : A < size := by rw [hA]; exact Nat.mod_lt _ (by omega)
  have hBl : 0 < B ∧ B < size := by rw [hB]; have := Nat.mod_lt (tagN kb s 1) (show 0 < size - 1 by omega); unfold skipN; omega
  rw [← hA, ← hB]
  have HA := Lib.hid hA
  have HBB := Lib.hid hB
  clear hw1 hA hB
  go_enter Try.func17, Try.ntmps17
  go_wp2_with (first
    | ((with_reducible show wpList _ _ _ (⟨some 12, _, _, _, _, _⟩ :: _) _ _); (try rw [← HW.out]); go_must (refine wpL_load rfl 28 (.tmp 3) rfl w.heap.size 0 rfl (BV kb) _ HR.out Try.underlying28 rfl HI.out ?_); simp only [Act.put, List.setIfInBounds_toArray, List.set_cons_zero, List.set_cons_succ])
    | (go_at_call 14; go_must (refine (permOf_any kb hkb s (by omega) size h2 h3 _).mono ?_); rintro e w2 ⟨he, hb2⟩; rw [← HA.out, ← HBB.out] at he; subst he; (first | (have HB1' := cB HB1 (by repeat (first | exact Below.refl _ _ | refine Below.drew ?_ | refine Below.trans ?_ (below_drewN _ _ _) | refine Below.alloc ?_ (by first | exact Nat.le_refl _ | (simp; done) | (simp; omega)) _)) hb2; clear HB1; have HB1 := HB1'; clear HB1') | (have HB1' := cO HB1 (by repeat (first | exact Below.refl _ _ | refine Below.drew ?_ | refine Below.trans ?_ (below_drewN _ _ _) | refine Below.alloc ?_ (by first | exact Nat.le_refl _ | (simp; done) | (simp; omega)) _)) hb2; clear HB1; have HB1 := HB1'; clear HB1') | (have HB1' := cK HB1 (by repeat (first | exact Below.refl _ _ | refine Below.drew ?_ | refine Below.trans ?_ (below_drewN _ _ _) | refine Below.alloc ?_ (by first | exact Nat.le_refl _ | (simp; done) | (simp; omega)) _)) hb2; clear HB1; have HB1 := HB1'; clear HB1') | (have HB1' := cP HB1 (by repeat (first | exact Below.refl _ _ | refine Below.drew ?_ | refine Below.trans ?_ (below_drewN _ _ _) | refine Below.alloc ?_ (by first | exact Nat.le_refl _ | (simp; done) | (simp; omega)) _)) hb2; clear HB1; have HB1 := HB1'; clear HB1')); clear hb2)
    | (at_make; go_must (refine wpL_make elI rfl (.tmp 18) (.tmp 18) rfl w1.heap.size size rfl rfl rfl rfl (by omega) (by unfold maxLen; omega) HB1.out.size ?_); intro w3 ho3 hg3; have HB3 := Lib.hid (HB1.out.grown hg3 HB1.out.size (fun k hk => by cases hk)); have HO3 := Lib.hid ho3; have HG := Lib.hid HB1.out.size; clear ho3 hg3 HB1; simp only [Act.put, List.setIfInBounds_toArray, List.set_cons_zero, List.set_cons_succ]))
  generalize w2.heap.size = g at *
  go_loopw [21, 10] (fun i _ wr => ∃ k : Nat, k ≤ size ∧ i = .int .i64 k ∧ wr.ownsRow w1.heap.size 3 1 (.slice (some ⟨g, 0, none⟩) size size) size (NV (allTo A B size k)) ∧ Below w1.heap.size w1 wr) (fun i _ _ => size - (intOf i).toNat)
  case atStart => exact ⟨0, Nat.zero_le _, rfl, by rw [allTo_zero, ← toList_madeCells_one]; have := HO3.out; rw [Nat.mul_one] at this; exact this, HB3.out⟩
  case round =>
    obtain ⟨k, hk, rfl, hown, hb⟩ := hrel
    clear HO3 HB3
    by_cases hlt : k < size
    · have hc := hown.cellAt k (by omega)
      have hcs : ∃ u, wr.cell? ⟨g, k, none⟩ = some u := ⟨_, by rw [hc]; exact List.getElem?_eq_getElem (by rw [NV_length]; simp [allTo]; exact hlt)⟩
      obtain ⟨u, hu⟩ := hcs
      have ff := hown.frozenAt k
      obtain ⟨X, hX⟩ : ∃ X, X = choiceN A B size k := ⟨_, rfl⟩
      have HX := Lib.hid hX
      obtain ⟨o2, g2⟩ := hown.stored k (.int .i64 (X : Int))
      rw [NV_set, hX, allTo_succ A B size k hlt] at o2
      rw [← hX] at o2
      have HO2 := Lib.hid o2
      have HG2 := Lib.hid g2
      have HB2 := Lib.hid (hb.grown g2 hb.size (fun j e => by cases e; exact HG.out))
      clear o2 g2 hown hb hc hX
      go_wp2_with (go_at_call 19; go_must (refine (choice_any A B size k _ (by omega) (by omega) (by omega) (by omega) (by omega)).mono ?_); rintro e w' ⟨he, rfl⟩; rw [← HX.out] at he; subst he)
      go_roundw
      case rel => exact ⟨k + 1, by omega, by go_num, HO2.out, HB2.out⟩
      case measure => simp [intOf]; omega
    · obtain rfl : k = size := by omega
      rw [allTo_all] at hown
      have HO2 := Lib.hid hown
      have HB2 := Lib.hid hb
      clear hown hb
      go_wp2_with fail
      go_ret
      exact ⟨_, _, rfl, own_base HO2.out HB.out.size, HB.out.trans (HB2.out.mono HB.out.size)⟩

set_option maxRecDepth 100000 in
set_option maxHeartbeats 1000000 in
theorem refAll_any (kb : List UInt8) (hkb : kb.length = 16) (s : ByteArray) (hs : s.size ≤ 999999) (size : Nat) (h2 : 2 ≤ size) (h3 : size ≤ 65537) (w : World) :
    Calls Try.prog 18 #[.agg (BV kb).toArray, .string s, .int .i64 (size : Int)] w (RetI size (allN (offN kb s size) (skipN kb s size) size) w) := by
  obtain ⟨w1, hw1⟩ : ∃ w1, w1 = w.alloc (.cells (BV kb).toArray 28) := ⟨_, rfl⟩
  have HB := Lib.hid (show Below w.heap.size w w1 by rw [hw1]; exact (by repeat (first | exact Below.refl _ _ | refine Below.drew ?_ | refine Below.trans ?_ (below_drewN _ _ _) | refine Below.alloc ?_ (by first | exact Nat.le_refl _ | (simp; done) | (simp; omega)) _)))
  have HR := Lib.hid (show w1.rangeAt w.heap.size 0 (BV kb) by rw [hw1]; exact range_last rfl)
  have HW := Lib.hid hw1
  have HI : Hid ((Try.prog.info? 28).map (·.size) = some (BV kb).length) := Lib.hid (by rw [BV_length, hkb]; kernel_rfl)
  have HB1 := Lib.hid (Below.refl w1.heap.size w1)
  obtain ⟨A, hA⟩ : ∃ A, A = offN kb s size := ⟨_, rfl⟩
  obtain ⟨B, hB⟩ : ∃ B, B = skipN kb s size := ⟨_, rfl⟩
  have hAl : A < size := by rw [hA]; exact Nat.mod_lt _ (by omega)
  have hBl : 0 < B ∧ B < size := by rw [hB]; have := Nat.mod_lt (tagN kb s 1) (show 0 < size - 1 by omega); unfold skipN; omega
  rw [← hA, ← hB]
  have HA := Lib.hid hA
  have HBB := Lib.hid hB
  have HAT : Hid (A = atN A B size 0) := Lib.hid (by unfold atN; rw [Nat.zero_mul, Nat.add_zero, Nat.mod_eq_of_lt hAl])
  have HAN : Hid (allN A B size = (List.range size).map (atN A B size)) := Lib.hid (by
    unfold allN
    exact List.map_congr_left fun i hi => atN_choice A B size i (by simpa using hi))
  clear hw1 hA hB
  go_enter Try.func18, Try.ntmps18
  go_wp2_with (first
    | ((with_reducible show wpList _ _ _ (⟨some 12, _, _, _, _, _⟩ :: _) _ _); (try rw [← HW.out]); go_must (refine wpL_load rfl 28 (.tmp 3) rfl w.heap.size 0 rfl (BV kb) _ HR.out Try.underlying28 rfl HI.out ?_); simp only [Act.put, List.setIfInBounds_toArray, List.set_cons_zero, List.set_cons_succ])
    | (go_at_call 15; go_must (refine (refPermOf_any kb hkb s hs size h2 h3 _).mono ?_); rintro e w2 ⟨he, hb2⟩; rw [← HA.out, ← HBB.out] at he; subst he; (first | (have HB1' := cB HB1 (by repeat (first | exact Below.refl _ _ | refine Below.drew ?_ | refine Below.trans ?_ (below_drewN _ _ _) | refine Below.alloc ?_ (by first | exact Nat.le_refl _ | (simp; done) | (simp; omega)) _)) hb2; clear HB1; have HB1 := HB1'; clear HB1') | (have HB1' := cO HB1 (by repeat (first | exact Below.refl _ _ | refine Below.drew ?_ | refine Below.trans ?_ (below_drewN _ _ _) | refine Below.alloc ?_ (by first | exact Nat.le_refl _ | (simp; done) | (simp; omega)) _)) hb2; clear HB1; have HB1 := HB1'; clear HB1') | (have HB1' := cK HB1 (by repeat (first | exact Below.refl _ _ | refine Below.drew ?_ | refine Below.trans ?_ (below_drewN _ _ _) | refine Below.alloc ?_ (by first | exact Nat.le_refl _ | (simp; done) | (simp; omega)) _)) hb2; clear HB1; have HB1 := HB1'; clear HB1') | (have HB1' := cP HB1 (by repeat (first | exact Below.refl _ _ | refine Below.drew ?_ | refine Below.trans ?_ (below_drewN _ _ _) | refine Below.alloc ?_ (by first | exact Nat.le_refl _ | (simp; done) | (simp; omega)) _)) hb2; clear HB1; have HB1 := HB1'; clear HB1')); clear hb2))
  go_loopw [7, 9, 10] (fun v7 v9 v10 wr => ∃ (k a : Nat) (ad : Option Addr) (c : Nat), k ≤ size ∧ v10 = .int .i64 k ∧ v7 = .int .i64 a ∧ a < size ∧ Hid (a = atN A B size k) ∧ v9 = .slice ad k c ∧ wr.ownsRow w1.heap.size 3 1 (.slice ad k c) k (NV ((List.range k).map (atN A B size))) ∧ Below w1.heap.size w1 wr) (fun _ _ i _ => size - (intOf i).toNat)
  case atStart => exact ⟨0, A, none, 0, Nat.zero_le _, rfl, rfl, hAl, HAT, rfl, World.ownsRow_nil _ _ _ _, HB1.out⟩
  case round =>
    obtain ⟨k, a, ad, c, hk, rfl, rfl, hal, ha, rfl, hown, hb⟩ := hrel
    have HO := Lib.hid hown
    have HB2 := Lib.hid hb
    have hbs := hb.size
    clear hown hb HB1
    by_cases hlt : k < size
    · have hst := atN_succ A B size k (by omega) hBl.2
      rw [← ha.out] at hst
      by_cases hge : size ≤ a + B
      · rw [if_pos hge] at hst
        have HST := Lib.hid hst
        have hge2 : (size : Int) ≤ (a : Int) + B := by omega
        clear hst
        go_wp2_with ((with_reducible show wpList _ _ _ (⟨some 26, _, _, _, _, _⟩ :: _) _ _); go_must (refine wpL_push elI rfl (.tmp 23) (.tmp 25) rfl w1.heap.size rfl HO.out _ 1 rfl rfl rfl (NV_one [a]) (by omega) (by omega) (by omega) hbs HB2.out (Nat.le_refl _) ?_); intro ad3 c3 w3 ho3 hb3 hg3; clear hg3)
        have HO3 := Lib.hid ho3
        have HB3 := Lib.hid hb3
        clear ho3 hb3
        go_wp2_with fail
        go_roundw
        case rel => exact ⟨k + 1, a + B - size, ad3, c3, by omega, by go_num, by go_num, by omega, Lib.hid HST.out.symm, rfl, by rw [List.range_succ, List.map_append, NV_append, List.map_cons, List.map_nil, ← ha.out]; exact HO3.out, HB3.out⟩
        case measure => simp [intOf]; omega
      · rw [if_neg hge] at hst
        have HST := Lib.hid hst
        have hge2 : ¬ ((size : Int) ≤ (a : Int) + B) := by omega
        clear hst
        go_wp2_with ((with_reducible show wpList _ _ _ (⟨some 26, _, _, _, _, _⟩ :: _) _ _); go_must (refine wpL_push elI rfl (.tmp 23) (.tmp 25) rfl w1.heap.size rfl HO.out _ 1 rfl rfl rfl (NV_one [a]) (by omega) (by omega) (by omega) hbs HB2.out (Nat.le_refl _) ?_); intro ad3 c3 w3 ho3 hb3 hg3; clear hg3)
        have HO3 := Lib.hid ho3
        have HB3 := Lib.hid hb3
        clear ho3 hb3
        go_wp2_with fail
        go_roundw
        case rel => exact ⟨k + 1, a + B, ad3, c3, by omega, by go_num, by go_num, by omega, Lib.hid HST.out.symm, rfl, by rw [List.range_succ, List.map_append, NV_append, List.map_cons, List.map_nil, ← ha.out]; exact HO3.out, HB3.out⟩
        case measure => simp [intOf]; omega
    · obtain rfl : k = size := by omega
      rw [← HAN.out] at HO
      go_wp2_with fail
      go_ret
      exact ⟨_, _, rfl, own_base HO.out HB.out.size, HB.out.trans (HB2.out.mono HB.out.size)⟩

/-- a slice of numbers reads as l -/
def Ns (w : World) (ad : Option Addr) (n c : Nat) (l : List Nat) : Prop := Sl w ad n c 1 (NV l)
theorem Ns.len {w : World} {ad : Option Addr} {n c : Nat} {l : List Nat} (h : Ns w ad n c l) : n = l.length := by have := Sl.len h; rw [NV_length] at this; omega
theorem Ns.at {w : World} {ad : Option Addr} {n c : Nat} {l : List Nat} (h : Ns w ad n c l) {j : Nat} (hj : j < l.length) :
    ∃ b off, ad = some ⟨b, off, none⟩ ∧ ∀ i (hi : i < l.length), w.cell? ⟨b, off + i, none⟩ = some (.int .i64 (l[i] : Int)) := by
  obtain ⟨b, off, ha, hb, hc⟩ := Sl.at h (j := j) (by rw [NV_length]; exact hj)
  refine ⟨b, off, ha, fun i hi => ?_⟩
  rw [hc i (by rw [NV_length]; exact hi)]
  simp [NV]
set_option maxHeartbeats 1000000 in
theorem sameI_any (ad ad' : Option Addr) (n n' c c' : Nat) (l : List Nat) (w : World) (hs : Ns w ad n c l) (hs' : Ns w ad' n' c' l) (hl : l.length ≤ 100000) :
    Calls Try.prog 16 #[.slice ad n c, .slice ad' n' c'] w fun e w' => e = .returned (.bool true) ∧ Below w.heap.size w w' := by
  have hn := hs.len
  have hn' := hs'.len
  subst hn hn'
  have hc1 : l.length ≤ c := hs.2.1
  have hc2 : l.length ≤ c' := hs'.2.1
  have HS := Lib.hid hs
  have HS' := Lib.hid hs'
  clear hs hs'
  go_enter Try.func16, Try.ntmps16
  go_wp2_with fail
  go_loopw [5] (fun i wr => ∃ k : Nat, k ≤ l.length ∧ i = .int .i64 k ∧ Below w.heap.size w wr) (fun i _ => l.length - (intOf i).toNat)
  case atStart => exact ⟨0, Nat.zero_le _, rfl, Below.refl _ _⟩
  case round =>
    obtain ⟨k, hk, rfl, hb⟩ := hrel
    by_cases hlt : k < l.length
    · obtain ⟨b, off, rfl, hcc⟩ := Ns.at (Sl.below HS.out hb) hlt
      obtain ⟨b', off', rfl, hcc'⟩ := Ns.at (Sl.below HS'.out hb) hlt
      have k1 := hcc k hlt
      have k2 := hcc' k hlt
      obtain ⟨x, hx⟩ : ∃ x, x = l[k] := ⟨_, rfl⟩
      rw [← hx] at k1 k2
      have HB := Lib.hid hb
      have hk0 : (0 : Int) ≤ (k : Int) := by omega
      have hk1 : (k : Int) < (l.length : Int) := by omega
      clear hcc hcc' hx hb
      go_wp2_with fail
      go_quiet (fail)
      go_wp2_with fail
      go_roundw
      case rel => exact ⟨k + 1, by omega, by go_num, HB.out.trans (below_drewN _ _ _)⟩
      case measure => simp [intOf]; omega
    · have HB := Lib.hid hb
      clear hb
      go_wp2_with fail
      go_ret
      exact ⟨rfl, HB.out⟩
end Go.Proofs.Ytndmpphkgcjnkaa
