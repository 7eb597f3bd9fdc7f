/-
  Plain laws of numbers as bytes.
-/
import Derived.Test.YtmigbcoobbcahaaBytes
namespace Go.Proofs.Ytmigbcoobbcahaa
open Go.RowKit Go.Sort
set_option linter.unusedVariables false

theorem numBE_from (a : Nat) (m : List UInt8) : m.foldl (fun n b => n * 256 + b.toNat) a = a * 256 ^ m.length + numBE m := by
  induction m generalizing a with
  | nil => simp [numBE]
  | cons b m ih =>
    have e : numBE (b :: m) = b.toNat * 256 ^ m.length + numBE m := by
      unfold numBE
      rw [List.foldl_cons, ih (0 * 256 + b.toNat)]
      simp [numBE]
    rw [List.foldl_cons, ih, e, List.length_cons, Nat.pow_succ, Nat.add_mul, Nat.mul_assoc, Nat.mul_comm 256, Nat.add_assoc]
theorem numBE_cons (b : UInt8) (m : List UInt8) : numBE (b :: m) = b.toNat * 256 ^ m.length + numBE m := by
  unfold numBE
  rw [List.foldl_cons, numBE_from]
  simp [numBE]
theorem numBE_append (l m : List UInt8) : numBE (l ++ m) = numBE l * 256 ^ m.length + numBE m := by
  unfold numBE
  rw [List.foldl_append, numBE_from]
  rfl
theorem pow256 (k : Nat) : 2 ^ (8 * k) = 256 ^ k := by rw [show (256 : Nat) = 2 ^ 8 from rfl, ← Nat.pow_mul]
theorem numBE_putLE (n k : Nat) : numBE (putLE n k).reverse = n % 256 ^ k := by
  induction k with
  | zero => simp [putLE, numBE, Nat.mod_one]
  | succ k ih =>
    rw [putLE_succ, List.reverse_append, List.reverse_cons, List.reverse_nil, List.nil_append, List.cons_append, List.nil_append, numBE_cons, ih, List.length_reverse, putLE_length, byteAt_toNat, pow256, Nat.mod_pow_succ, Nat.mul_comm]
    omega
theorem getN_putL (n : Nat) (size : Int) (big : Bool) : getN (putL n size big) big = n % 256 ^ sizeOf8 size := by
  have h8 : sizeOf8 size ≤ 8 := by unfold sizeOf8; omega
  unfold getN putL
  cases big
  · simp only [Bool.false_eq_true, if_false]
    rw [List.take_of_length_le (by rw [putLE_length]; exact h8), numBE_putLE]
  · simp only [if_true]
    rw [List.take_of_length_le (by rw [List.length_reverse, putLE_length]; exact h8), numBE_putLE]
theorem byteAt_first (n : Nat) (b : UInt8) : byteAt (n * 256 + b.toNat) 0 = b := by
  have := b.toNat_lt
  apply UInt8.toNat_inj.1
  rw [byteAt_toNat]
  simp
theorem byteAt_next (n i : Nat) (b : UInt8) : byteAt (n * 256 + b.toNat) (i + 1) = byteAt n i := by
  have := b.toNat_lt
  apply UInt8.toNat_inj.1
  rw [byteAt_toNat, byteAt_toNat, show 8 * (i + 1) = 8 + 8 * i by omega, Nat.pow_add, ← Nat.div_div_eq_div_mul]
  congr 2
  omega
theorem putLE_numBE (m : List UInt8) : putLE (numBE m.reverse) m.length = m := by
  induction m with
  | nil => rfl
  | cons b m ih =>
    rw [List.reverse_cons, numBE_snoc, List.length_cons]
    unfold putLE
    rw [List.range_succ_eq_map, List.map_cons, byteAt_first, List.map_map]
    congr 1
    refine Eq.trans ?_ ih
    unfold putLE
    refine List.map_congr_left fun i _ => ?_
    exact byteAt_next _ _ _
theorem putL_getN (l : List UInt8) (big : Bool) (h : l.length ≤ 8) : putL (getN l big) (l.length : Int) big = l := by
  have e : sizeOf8 (l.length : Int) = l.length := by unfold sizeOf8; omega
  unfold putL getN
  rw [e, List.take_of_length_le h]
  cases big
  · simp only [Bool.false_eq_true, if_false]
    exact putLE_numBE l
  · simp only [if_true]
    have := putLE_numBE l.reverse
    rw [List.reverse_reverse, List.length_reverse] at this
    rw [this, List.reverse_reverse]
theorem putL_turn (n : Nat) (size : Int) : putL n size true = (putL n size false).reverse := by unfold putL; simp
theorem getN_turn (l : List UInt8) (h : l.length ≤ 8) : getN l true = getN l.reverse false := by
  unfold getN
  rw [List.take_of_length_le h, List.take_of_length_le (by simpa using h)]
  simp
/-- two of four bytes are one of eight -/
theorem parts_big (a b : Nat) (ha : a < 4294967296) (hb : b < 4294967296) : getN (putL a 4 true ++ putL b 4 true) true = a * 4294967296 + b := by
  unfold getN
  simp only [if_true]
  have l4 : ∀ n, (putL n 4 true).length = 4 := fun n => putL_length n 4 true
  have v4 : ∀ n, n < 4294967296 → numBE (putL n 4 true) = n := fun n h => by
    unfold putL
    simp only [if_true]
    rw [numBE_putLE]
    exact Nat.mod_eq_of_lt h
  rw [List.take_of_length_le (by rw [List.length_append, l4, l4]; omega), numBE_append, l4, v4 a ha, v4 b hb]
theorem parts_small (a b : Nat) (ha : a < 4294967296) (hb : b < 4294967296) : getN (putL b 4 false ++ putL a 4 false) false = a * 4294967296 + b := by
  have e : ∀ n, (putL n 4 false) = (putL n 4 true).reverse := fun n => by rw [putL_turn, List.reverse_reverse]
  have l4 : ∀ n, (putL n 4 true).length = 4 := fun n => putL_length n 4 true
  rw [e, e, ← List.reverse_append, ← getN_turn _ (by rw [List.length_append, l4, l4]; omega), parts_big a b ha hb]
end Go.Proofs.Ytmigbcoobbcahaa
