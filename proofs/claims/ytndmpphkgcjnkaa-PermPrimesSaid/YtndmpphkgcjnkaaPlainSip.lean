/-
  Plain laws of SipHash's words: the words in a list are the words that are taken in.
-/
import Derived.Test.YtndmpphkgcjnkaaSip4
import Derived.Test.YtndmpphkgcjnkaaPlain1
namespace Go.Proofs.Ytndmpphkgcjnkaa
open Go.RowKit Go.Sort
set_option linter.unusedVariables false

/-- how many noughts -/
def pad7 (n : Nat) : Nat := (15 - n % 8) % 8
/-- the bytes with noughts and the last one -/
def allOf (l : List UInt8) : List UInt8 := l ++ List.replicate (pad7 l.length) 0 ++ [UInt8.ofNat (l.length % 256)]
theorem allOf_length (l : List UInt8) : (allOf l).length = 8 * (l.length / 8 + 1) := by
  simp [allOf, pad7]
  omega
def wordAt (l : List UInt8) (i : Nat) : Nat := getN ((allOf l).drop (8 * i)) false
def wordsOf (l : List UInt8) : List Nat := (List.range (l.length / 8 + 1)).map (wordAt l)
theorem wordAt_in (l : List UInt8) (i : Nat) (h : i < l.length / 8) : wordAt l i = getN (l.drop (8 * i)) false := by
  unfold wordAt getN allOf
  simp only [Bool.false_eq_true, if_false]
  congr 2
  rw [List.append_assoc, List.drop_append_of_le_length (by omega), List.take_append_of_le_length (by rw [List.length_drop]; omega)]
theorem wordAt_last (l : List UInt8) : wordAt l (l.length / 8) = sipLast l := by
  unfold wordAt sipLast getN allOf
  simp only [Bool.false_eq_true, if_false]
  obtain ⟨r, hr⟩ : ∃ r, r = l.drop (8 * (l.length / 8)) := ⟨_, rfl⟩
  have hrl : r.length = l.length % 8 := by rw [hr, List.length_drop]; omega
  rw [List.append_assoc, List.drop_append_of_le_length (by omega), ← hr, List.take_of_length_le (by simp [pad7]; omega), List.take_of_length_le (show r.length ≤ 8 by omega)]
  have hp : pad7 l.length = 7 - r.length := by unfold pad7; omega
  have hz : ∀ k, numBE (List.replicate k (0 : UInt8)) = 0 := by
    intro k
    induction k with
    | zero => rfl
    | succ k ih => rw [List.replicate_succ, numBE_cons, ih]; simp
  have hr7 := numBE_lt r.reverse
  rw [List.length_reverse] at hr7
  have hr8 : numBE r.reverse < 72057594037927936 := Nat.lt_of_lt_of_le hr7 (show 256 ^ r.length ≤ 256 ^ 7 from Nat.pow_le_pow_right (by omega) (by omega))
  rw [List.reverse_append, List.reverse_append, List.reverse_cons, List.reverse_nil, List.nil_append, List.reverse_replicate, List.append_assoc, numBE_append, numBE_append, hz, Nat.zero_mul, Nat.zero_add]
  have e1 : numBE [UInt8.ofNat (l.length % 256)] = l.length % 256 := by simp [numBE]
  rw [e1, List.length_append, List.length_replicate, List.length_reverse, hp, show 7 - r.length + r.length = 7 by omega]
  unfold orN
  have e2 : l.length * 72057594037927936 % 18446744073709551616 = l.length % 256 * 72057594037927936 := by omega
  rw [e2, Nat.mod_eq_of_lt (show l.length % 256 * 72057594037927936 < 18446744073709551616 by omega), Nat.mod_eq_of_lt (show numBE r.reverse < 18446744073709551616 by omega)]
  have := Nat.two_pow_add_eq_or_of_lt (i := 56) (b := numBE r.reverse) hr8 (l.length % 256)
  rw [Nat.mul_comm] at this
  exact this
/-- taken in one behind the other -/
def eatN (s : Nat × Nat × Nat × Nat) (ws : List Nat) : Nat × Nat × Nat × Nat := ws.foldl wordN s
theorem eat_some (kb l : List UInt8) (i : Nat) (h : i ≤ l.length / 8) : eatN (sip0 kb) ((List.range i).map (wordAt l)) = sipI kb l i := by
  induction i with
  | zero => rfl
  | succ i ih =>
    rw [List.range_succ, List.map_append, List.map_cons, List.map_nil]
    unfold eatN at *
    rw [List.foldl_append, ih (by omega), List.foldl_cons, List.foldl_nil, wordAt_in l i (by omega)]
    rfl
theorem eat_all (kb l : List UInt8) : sipEnd (eatN (sip0 kb) (wordsOf l)) = sipN kb l := by
  unfold wordsOf
  rw [List.range_succ, List.map_append, List.map_cons, List.map_nil]
  have := eat_some kb l (l.length / 8) (Nat.le_refl _)
  unfold eatN at *
  rw [List.foldl_append, this, List.foldl_cons, List.foldl_nil, wordAt_last]
  rfl
end Go.Proofs.Ytndmpphkgcjnkaa
