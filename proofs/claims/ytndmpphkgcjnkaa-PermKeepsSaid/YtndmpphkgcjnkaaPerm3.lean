/-
  Chapter 16: the offset and the skip, walked.
-/
import Derived.Test.YtndmpphkgcjnkaaKitSip
import Derived.Test.YtndmpphkgcjnkaaPerm2
namespace Go.Proofs.Ytndmpphkgcjnkaa
open Go.RowKit Go.Sort
set_option linter.unusedVariables false

/-- the hash of a name and a tag -/
def tagN (kb : List UInt8) (s : ByteArray) (tag : UInt8) : Nat := sipN kb (s.data.toList ++ [tag])

set_option maxRecDepth 100000 in
set_option maxHeartbeats 1000000 in
theorem rest_any (kb : List UInt8) (hkb : kb.length = 16) (s : ByteArray) (hs : s.size ≤ 1000000) (tag : UInt8) (by_ : Nat) (hb0 : 0 < by_) (hb1 : by_ ≤ 65537) (g1 g2 : Nat) (w : World)
    (hr : w.rangeAt g1 0 (BV kb)) (hg1 : g1 < w.heap.size) (hc : w.cell? ⟨g2, 0, none⟩ = some (.string s)) :
    Calls Try.prog 20 #[.int .u8 (tag.toNat : Int), .int .i64 (by_ : Int), .pointer (some ⟨g1, 0, none⟩), .pointer (some ⟨g2, 0, none⟩)] w fun e w' => e = .returned (.int .i64 ((tagN kb s tag % by_ : Nat) : Int)) ∧ Below w.heap.size w w' := by
  have HR := Lib.hid hr
  have HB := Lib.hid (Below.refl w.heap.size w)
  have HI : Hid ((Try.prog.info? 28).map (·.size) = some (BV kb).length) := Lib.hid (by rw [BV_length, hkb]; kernel_rfl)
  have hsl : s.data.toList.length = s.size := Array.length_toList
  obtain ⟨X, hX⟩ : ∃ X : Nat, X = tagN kb s tag := ⟨_, rfl⟩
  have HX : Hid (((sipN kb (s.data.toList ++ [tag]) : Nat) : Int) = (X : Int)) := Lib.hid (by rw [hX]; rfl)
  have HL : Hid ((s.data.toList ++ [tag]).length ≤ 140737488351232) := Lib.hid (by rw [List.length_append, hsl]; simp; omega)
  obtain ⟨z, hz⟩ : ∃ z, z = X % by_ := ⟨_, rfl⟩
  have hzi : (X : Int) % (by_ : Int) = (z : Int) := by rw [hz, Int.natCast_emod]
  have hzl : z < by_ := by rw [hz]; exact Nat.mod_lt _ hb0
  have HF : Hid (tagN kb s tag % by_ = z) := Lib.hid (by rw [hz, hX])
  have hXb : X < 18446744073709551616 := by rw [hX]; exact xorN_lt _ _
  clear hr hX hz hsl
  go_enter Try.func20, Try.ntmps20
  go_wp2_with (first
    | ((with_reducible show wpList _ _ _ (⟨some 7, _, _, _, _, _⟩ :: _) _ _); go_must (refine wpL_load rfl 28 (.tmp 2) rfl g1 0 rfl (BV kb) _ HR.out Try.underlying28 rfl HI.out ?_); simp only [Act.put, List.setIfInBounds_toArray, List.set_cons_zero, List.set_cons_succ])
    | ((with_reducible show wpList _ _ _ (⟨some 9, _, _, _, _, _⟩ :: _) _ _); go_must (refine wpL_conv s Try.underlying9 Try.underlying42 Try.underlying5 (by omega) rfl (.tmp 8) rfl rfl ?_); intro c1 w1 hf1 hb1; have HF1 := Lib.hid hf1; (first | (have HB' := cB HB (by repeat (first | exact Below.refl _ _ | refine Below.drew ?_ | refine Below.alloc ?_ (by first | exact Nat.le_refl _ | (simp; done) | (simp; omega)) _)) hb1; clear HB; have HB := HB'; clear HB') | (have HB' := cO HB (by repeat (first | exact Below.refl _ _ | refine Below.drew ?_ | refine Below.alloc ?_ (by first | exact Nat.le_refl _ | (simp; done) | (simp; omega)) _)) hb1; clear HB; have HB := HB'; clear HB') | (have HB' := cK HB (by repeat (first | exact Below.refl _ _ | refine Below.drew ?_ | refine Below.alloc ?_ (by first | exact Nat.le_refl _ | (simp; done) | (simp; omega)) _)) hb1; clear HB; have HB := HB'; clear HB') | (have HB' := cP HB (by repeat (first | exact Below.refl _ _ | refine Below.drew ?_ | refine Below.alloc ?_ (by first | exact Nat.le_refl _ | (simp; done) | (simp; omega)) _)) hb1; clear HB; have HB := HB'; clear HB')); clear hf1 hb1; simp only [Act.put, List.setIfInBounds_toArray, List.set_cons_zero, List.set_cons_succ])
    | (go_at_call 21; go_must (refine (of_eq kb hkb _ 2 2 [(some ⟨w.heap.size, 0, none⟩, s.size, c1, s.data.toList), (some ⟨w1.heap.size, 0, none⟩, 1, 1, [tag])] _ (pts_at _ _ (by simp) (by rfl) rfl (by simp [maxLen]) (by intro p hp; simp only [List.mem_cons, List.not_mem_nil, or_false] at hp; rcases hp with rfl | rfl; exact (HF1.out.bs).below (by repeat (first | exact Below.refl _ _ | refine Below.drew ?_ | refine Below.alloc ?_ (by first | exact Nat.le_refl _ | (simp; done) | (simp; omega)) _)); exact one_at rfl tag (Below.refl _ _)) (Below.refl _ _)) (s.data.toList ++ [tag]) (by simp [flat]) HL.out _ HX.out).mono ?_); rintro e w6 ⟨rfl, hb6⟩; (first | (have HB' := cB HB (by repeat (first | exact Below.refl _ _ | refine Below.drew ?_ | refine Below.alloc ?_ (by first | exact Nat.le_refl _ | (simp; done) | (simp; omega)) _)) hb6; clear HB; have HB := HB'; clear HB') | (have HB' := cO HB (by repeat (first | exact Below.refl _ _ | refine Below.drew ?_ | refine Below.alloc ?_ (by first | exact Nat.le_refl _ | (simp; done) | (simp; omega)) _)) hb6; clear HB; have HB := HB'; clear HB') | (have HB' := cK HB (by repeat (first | exact Below.refl _ _ | refine Below.drew ?_ | refine Below.alloc ?_ (by first | exact Nat.le_refl _ | (simp; done) | (simp; omega)) _)) hb6; clear HB; have HB := HB'; clear HB') | (have HB' := cP HB (by repeat (first | exact Below.refl _ _ | refine Below.drew ?_ | refine Below.alloc ?_ (by first | exact Nat.le_refl _ | (simp; done) | (simp; omega)) _)) hb6; clear HB; have HB := HB'; clear HB')); clear hb6))
  go_ret
  exact ⟨by rw [HF.out, ← hzi]; rfl, HB.out⟩

def offN (kb : List UInt8) (s : ByteArray) (size : Nat) : Nat := tagN kb s 0 % size
def skipN (kb : List UInt8) (s : ByteArray) (size : Nat) : Nat := tagN kb s 1 % (size - 1) + 1

set_option maxRecDepth 100000 in
set_option maxHeartbeats 1000000 in
theorem permOf_any (kb : List UInt8) (hkb : kb.length = 16) (s : ByteArray) (hs : s.size ≤ 1000000) (size : Nat) (h2 : 2 ≤ size) (h3 : size ≤ 65537) (w : World) :
    Calls Try.prog 14 #[.agg (BV kb).toArray, .string s, .int .i64 (size : Int)] w fun e w' => e = .returned (.tuple #[.int .i64 ((offN kb s size : Nat) : Int), .int .i64 ((skipN kb s size : Nat) : Int)]) ∧ Below w.heap.size w w' := by
  obtain ⟨w1, hw1⟩ : ∃ w1, w1 = (w.alloc (.cells (BV kb).toArray 28)).alloc (.cells #[.string s] 9) := ⟨_, rfl⟩
  have HB := Lib.hid (show Below w.heap.size w w1 by rw [hw1]; exact (by repeat (first | exact Below.refl _ _ | refine Below.drew ?_ | refine Below.alloc ?_ (by first | exact Nat.le_refl _ | (simp; done) | (simp; omega)) _)))
  have HR := Lib.hid (show w1.rangeAt w.heap.size 0 (BV kb) by rw [hw1]; exact range_below (B := (w.alloc (.cells (BV kb).toArray 28)).heap.size) (range_last rfl) (by simp) (by repeat (first | exact Below.refl _ _ | refine Below.drew ?_ | refine Below.alloc ?_ (by first | exact Nat.le_refl _ | (simp; done) | (simp; omega)) _)))
  have HC := Lib.hid (show w1.cell? ⟨w.heap.size + 1, 0, none⟩ = some (.string s) by rw [hw1]; simp)
  have HZ := Lib.hid (show w1.heap.size = w.heap.size + 1 + 1 by rw [hw1]; simp)
  have HW := Lib.hid hw1
  have HB1 := Lib.hid (Below.refl w1.heap.size w1)
  obtain ⟨A, hA⟩ : ∃ A, A = offN kb s size := ⟨_, rfl⟩
  obtain ⟨B, hB⟩ : ∃ B, B = tagN kb s 1 % (size - 1) := ⟨_, rfl⟩
  have hB0 : Hid (skipN kb s size = B + 1) := Lib.hid (by rw [hB]; rfl)
  have hBl : B < size - 1 := by rw [hB]; exact Nat.mod_lt _ (by omega)
  have HA := Lib.hid hA
  have HBB := Lib.hid hB
  have hsz1 : (size : Int) - 1 = ((size - 1 : Nat) : Int) := by omega
  rw [← hA]
  have T1 : True := trivial
  clear hw1 hA hB
  go_enter Try.func14, Try.ntmps14
  go_wp2_with (first
    | (go_at_call 20; have t1 := T1; clear t1 T1; (try rw [← HW.out]); go_must (refine (rest_any kb hkb s hs 0 size (by omega) (by omega) w.heap.size (w.heap.size + 1) _ HR.out (by have := HZ.out; omega) HC.out).mono ?_); rintro e w6 ⟨he, hb6⟩; rw [show tagN kb s 0 % size = offN kb s size from rfl, ← HA.out] at he; subst he; (first | (have HB1' := cB HB1 (by repeat (first | exact Below.refl _ _ | refine Below.drew ?_ | refine Below.alloc ?_ (by first | exact Nat.le_refl _ | (simp; done) | (simp; omega)) _)) hb6; clear HB1; have HB1 := HB1'; clear HB1') | (have HB1' := cO HB1 (by repeat (first | exact Below.refl _ _ | refine Below.drew ?_ | refine Below.alloc ?_ (by first | exact Nat.le_refl _ | (simp; done) | (simp; omega)) _)) hb6; clear HB1; have HB1 := HB1'; clear HB1') | (have HB1' := cK HB1 (by repeat (first | exact Below.refl _ _ | refine Below.drew ?_ | refine Below.alloc ?_ (by first | exact Nat.le_refl _ | (simp; done) | (simp; omega)) _)) hb6; clear HB1; have HB1 := HB1'; clear HB1') | (have HB1' := cP HB1 (by repeat (first | exact Below.refl _ _ | refine Below.drew ?_ | refine Below.alloc ?_ (by first | exact Nat.le_refl _ | (simp; done) | (simp; omega)) _)) hb6; clear HB1; have HB1 := HB1'; clear HB1')); clear hb6)
    | (go_at_call 20; go_must (refine (rest_any kb hkb s hs 1 (size - 1) (by omega) (by omega) w.heap.size (w.heap.size + 1) _ (range_below HR.out (by have := HZ.out; omega) HB1.out) (by have := HZ.out; have := HB1.out.size; omega) ((HB1.out.cell (p := ⟨w.heap.size + 1, 0, none⟩) (by have := HZ.out; show w.heap.size + 1 < _; omega)).trans HC.out)).mono ?_); rintro e w6 ⟨he, hb6⟩; rw [← HBB.out] at he; subst he; (first | (have HB1' := cB HB1 (by repeat (first | exact Below.refl _ _ | refine Below.drew ?_ | refine Below.alloc ?_ (by first | exact Nat.le_refl _ | (simp; done) | (simp; omega)) _)) hb6; clear HB1; have HB1 := HB1'; clear HB1') | (have HB1' := cO HB1 (by repeat (first | exact Below.refl _ _ | refine Below.drew ?_ | refine Below.alloc ?_ (by first | exact Nat.le_refl _ | (simp; done) | (simp; omega)) _)) hb6; clear HB1; have HB1 := HB1'; clear HB1') | (have HB1' := cK HB1 (by repeat (first | exact Below.refl _ _ | refine Below.drew ?_ | refine Below.alloc ?_ (by first | exact Nat.le_refl _ | (simp; done) | (simp; omega)) _)) hb6; clear HB1; have HB1 := HB1'; clear HB1') | (have HB1' := cP HB1 (by repeat (first | exact Below.refl _ _ | refine Below.drew ?_ | refine Below.alloc ?_ (by first | exact Nat.le_refl _ | (simp; done) | (simp; omega)) _)) hb6; clear HB1; have HB1 := HB1'; clear HB1')); clear hb6))
  go_ret2
  exact ⟨by rw [hB0.out]; rfl, HB.out.trans (HB1.out.mono HB.out.size)⟩
end Go.Proofs.Ytndmpphkgcjnkaa
