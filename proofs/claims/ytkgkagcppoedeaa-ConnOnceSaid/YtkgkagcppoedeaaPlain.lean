/-
  Plain facts on a TCP flow's flags and states: what the program computes with bits and what the document computes with quotients is one. No program in sight.
-/
import Derived.WalkKit
namespace Go.Proofs.Ytkgkagcppoedeaa

/-- the program's test of a flag -/
def hasB (f o : Int) : Bool := bits BinOp.and IntKind.i64 f o != 0
/-- the document's test of a flag -/
def bitB (f o : Int) : Bool := (f % 64) / o % 2 == 1

theorem ofInt_toNat (f : Int) : (BitVec.ofInt 64 f).toNat = (f % 18446744073709551616).toNat := by
  rw [BitVec.toNat_ofInt]; rfl

theorem nat_and_pow (n k : Nat) : n &&& 2 ^ k = (n.testBit k).toNat * 2 ^ k := by
  apply Nat.eq_of_testBit_eq
  intro i
  rw [Nat.testBit_and, Nat.testBit_two_pow]
  by_cases h : k = i
  · subst h
    cases ht : n.testBit k <;> simp
  · cases ht : n.testBit k <;> simp [h]

theorem and_pow (f : Int) (k : Nat) (hk : k < 6) : hasB f ((2 : Int) ^ k) = bitB f ((2 : Int) ^ k) := by
  have hN := ofInt_toNat f
  have hk' : k = 0 ∨ k = 1 ∨ k = 2 ∨ k = 3 ∨ k = 4 ∨ k = 5 := by omega
  have h2 : (BitVec.ofInt 64 ((2 : Int) ^ k)).toNat = 2 ^ k := by
    rcases hk' with rfl | rfl | rfl | rfl | rfl | rfl <;> rfl
  have ha : bits BinOp.and IntKind.i64 f ((2 : Int) ^ k) = IntKind.i64.wrap ((((f % 18446744073709551616).toNat.testBit k).toNat * 2 ^ k : Nat) : Int) := by
    show IntKind.i64.wrap (((BitVec.ofInt 64 f) &&& (BitVec.ofInt 64 ((2 : Int) ^ k))).toNat : Int) = _
    rw [BitVec.toNat_and, hN, h2, nat_and_pow]
  unfold hasB bitB
  rw [ha, Nat.testBit_eq_decide_div_mod_eq]
  have hw : ∀ n : Nat, n < 64 → IntKind.i64.wrap (n : Int) = n := fun n hn => by rw [IntKind.wrap_i64]; omega
  by_cases ht : (f % 18446744073709551616).toNat / 2 ^ k % 2 = 1
  · rcases hk' with rfl | rfl | rfl | rfl | rfl | rfl <;> (
      simp only [Nat.reducePow] at ht ⊢
      simp only [ht, decide_true, Bool.toNat_true, Nat.one_mul]
      rw [hw _ (by omega)]
      rw [Bool.eq_iff_iff]
      simp
      omega)
  · rcases hk' with rfl | rfl | rfl | rfl | rfl | rfl <;> (
      simp only [Nat.reducePow] at ht ⊢
      simp only [ht, decide_false, Bool.toNat_false, Nat.zero_mul]
      rw [hw _ (by omega)]
      rw [Bool.eq_iff_iff]
      simp
      omega)

theorem has_1 (f : Int) : hasB f 1 = bitB f 1 := and_pow f 0 (by omega)
theorem has_2 (f : Int) : hasB f 2 = bitB f 2 := and_pow f 1 (by omega)
theorem has_4 (f : Int) : hasB f 4 = bitB f 4 := and_pow f 2 (by omega)
theorem has_16 (f : Int) : hasB f 16 = bitB f 16 := and_pow f 4 (by omega)

theorem wrap_mod64 (n : Nat) : IntKind.i64.wrap (n : Int) % 64 = ((n % 64 : Nat) : Int) := by rw [IntKind.wrap_i64]; omega

/-- what is not among the lowest six bits counts for nothing -/
theorem other_mod (f h : Int) : bits BinOp.or IntKind.i64 (bits BinOp.and IntKind.i64 f 63) (bits BinOp.andNot IntKind.i64 h 63) % 64 = f % 64 := by
  have e : ∀ x : Nat, (BitVec.ofInt 64 (IntKind.i64.wrap (x : Int))).toNat % 64 = x % 64 := fun x => by
    rw [ofInt_toNat, IntKind.wrap_i64]; omega
  show IntKind.i64.wrap ((BitVec.ofInt 64 (bits BinOp.and IntKind.i64 f 63) ||| BitVec.ofInt 64 (bits BinOp.andNot IntKind.i64 h 63)).toNat : Int) % 64 = _
  rw [wrap_mod64, BitVec.toNat_or, show (64 : Nat) = 2 ^ 6 from rfl, Nat.or_mod_two_pow, ← show (64 : Nat) = 2 ^ 6 from rfl]
  have a1 : (BitVec.ofInt 64 (bits BinOp.and IntKind.i64 f 63)).toNat % 64 = (f % 64).toNat := by
    show (BitVec.ofInt 64 (IntKind.i64.wrap ((BitVec.ofInt 64 f &&& BitVec.ofInt 64 63).toNat : Int))).toNat % 64 = _
    rw [e, BitVec.toNat_and, ofInt_toNat]
    have : (BitVec.ofInt 64 63).toNat = 2 ^ 6 - 1 := rfl
    rw [this, Nat.and_two_pow_sub_one_eq_mod]
    omega
  have a2 : (BitVec.ofInt 64 (bits BinOp.andNot IntKind.i64 h 63)).toNat % 64 = 0 := by
    show (BitVec.ofInt 64 (IntKind.i64.wrap ((BitVec.ofInt 64 h &&& ~~~ BitVec.ofInt 64 63).toNat : Int))).toNat % 64 = _
    rw [e, BitVec.toNat_and]
    have : (~~~ BitVec.ofInt 64 63).toNat = 2 ^ 64 - 2 ^ 6 := rfl
    rw [this, show (64 : Nat) = 2 ^ 6 from rfl, Nat.and_mod_two_pow]
    show _ &&& 0 = 0
    simp
  rw [a1, a2]
  simp
  omega

theorem tmod64 (f : Int) : (0 ≤ f.tmod 64 ∧ f.tmod 64 < 64 ∧ f.tmod 64 = f % 64) ∨ (f.tmod 64 < 0 ∧ -64 < f.tmod 64 ∧ f.tmod 64 + 64 = f % 64) := by
  rw [Int.tmod_eq_emod]
  split <;> omega
theorem bitB_walk (f o n : Int) (ho : 1 ≤ o) (hn : n = f % 64) : ((n / o).tmod 2 == 1) = bitB f o := by
  subst hn
  unfold bitB
  rw [Int.tmod_eq_emod_of_nonneg (Int.ediv_nonneg (by omega) (by omega))]
theorem bit_mod (f g o : Int) (h : f % 64 = g % 64) : bitB f o = bitB g o := by unfold bitB; rw [h]
theorem bitB_eq (f o : Int) (n : Int) (h : n = f % 64) : (n / o % 2 == 1) = bitB f o := by subst h; rfl

attribute [irreducible] hasB bitB

def opensB (f : Int) : Bool := hasB f 2 && !hasB f 16
def opensR (f : Int) : Bool := bitB f 2 && !bitB f 16
theorem opens_eq (f : Int) : opensB f = opensR f := by unfold opensB opensR; rw [has_2, has_16]

/-- the state behind flags, as the program has it -/
def nextS (s f : Int) : Int :=
  if s = 5 then s else if s < 1 ∨ 5 < s then 0 else if hasB f 4 then 4 else if s = 4 ∧ opensB f then 1 else if s = 4 then s
  else if hasB f 1 then 3 else if s = 1 ∧ hasB f 16 ∧ ¬ hasB f 2 then 2 else s
def beginS (p f : Int) : Int :=
  if p = 17 then 5 else if p = 6 then (if hasB f 4 then 4 else if hasB f 1 then 3 else if opensB f then 1 else 2) else 0
/-- as the document has it -/
def nextR (s f : Int) : Int :=
  if s = 5 then 5 else if s < 1 ∨ 5 < s then 0 else if bitB f 4 then 4 else if s = 4 then (if opensR f then 1 else 4)
  else if s = 3 ∨ bitB f 1 then 3 else if s = 1 ∧ bitB f 16 ∧ ¬ bitB f 2 then 2 else s
def beginR (p f : Int) : Int :=
  if p = 17 then 5 else if p = 6 then (if bitB f 4 then 4 else if bitB f 1 then 3 else if opensR f then 1 else 2) else 0

theorem begin_eq (p f : Int) : beginS p f = beginR p f := by
  unfold beginS beginR; rw [has_4, has_1, opens_eq]
theorem next_eq (s f : Int) : nextS s f = nextR s f := by
  unfold nextS nextR; rw [has_4, has_1, has_16, has_2, opens_eq]
  by_cases h5 : s = 5
  · simp [h5]
  by_cases h : s < 1 ∨ 5 < s
  · simp [h5, h]
  simp only [h5, h, if_false]
  by_cases h4 : bitB f 4 = true
  · simp [h4]
  simp only [h4]
  by_cases e4 : s = 4
  · subst e4; simp
  by_cases e3 : s = 3
  · subst e3; simp
  simp [e4, e3]

theorem next_range (s f : Int) : nextS s f = 5 ∧ s = 5 ∨ 0 ≤ nextS s f ∧ nextS s f ≤ 4 := by
  unfold nextS; repeat' split
  all_goals omega

theorem next_mod (s f g : Int) (h : f % 64 = g % 64) : nextS s f = nextS s g := by
  rw [next_eq, next_eq]; unfold nextR opensR; rw [bit_mod f g 4 h, bit_mod f g 2 h, bit_mod f g 16 h, bit_mod f g 1 h]
theorem begin_mod (p f g : Int) (h : f % 64 = g % 64) : beginS p f = beginS p g := by
  rw [begin_eq, begin_eq]; unfold beginR opensR; rw [bit_mod f g 4 h, bit_mod f g 2 h, bit_mod f g 16 h, bit_mod f g 1 h]

/-- a tick, as it counts -/
def tickS (n : Int) : Int := if n < 0 then 0 else if 1099511627776 < n then 1099511627776 else n
theorem tick_range (n : Int) : 0 ≤ tickS n ∧ tickS n ≤ 1099511627776 := by unfold tickS; repeat' split
                                                                           all_goals omega
theorem tick_mono (a b : Int) (h : a ≤ b) : tickS a ≤ tickS b := by unfold tickS; repeat' split
                                                                    all_goals omega
def runS (s : Int) (l : List Int) : Int := l.foldl nextS s
theorem runS_nil (s : Int) : runS s [] = s := rfl
theorem runS_snoc (s : Int) (l : List Int) (x : Int) : runS s (l ++ [x]) = nextS (runS s l) x := by simp [runS]
theorem runS_append (s : Int) (l m : List Int) : runS s (l ++ m) = runS (runS s l) m := by simp [runS]
theorem take_snoc (zs : List Int) (k : Nat) (h : k < zs.length) : zs.take (k + 1) = zs.take k ++ [zs.getD k 0] := by
  rw [List.take_add_one, List.getElem?_eq_getElem h]; simp [List.getD, h]
theorem runS_take (s : Int) (zs : List Int) (k : Nat) (h : k < zs.length) : runS s (zs.take (k + 1)) = nextS (runS s (zs.take k)) (zs.getD k 0) := by
  rw [take_snoc zs k h, runS_snoc]
end Go.Proofs.Ytkgkagcppoedeaa
