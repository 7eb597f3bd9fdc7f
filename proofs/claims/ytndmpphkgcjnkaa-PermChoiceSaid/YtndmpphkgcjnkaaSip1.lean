/-
  SipHash's words: what turns, sums and differences of words are; the rounds.
-/
import Derived.Test.YtndmpphkgcjnkaaCarry
import Derived.Laws.Rows
namespace Go.Proofs.Ytndmpphkgcjnkaa
open Go.RowKit Go.Sort
set_option linter.unusedVariables false

def M64 : Nat := 18446744073709551616
def orN (a b : Nat) : Nat := (a % 18446744073709551616) ||| (b % 18446744073709551616)
def xorN (a b : Nat) : Nat := (a % 18446744073709551616) ^^^ (b % 18446744073709551616)
def addN (a b : Nat) : Nat := (a + b) % 18446744073709551616
def turnN (n k : Nat) : Nat := orN (n * 2 ^ k % 18446744073709551616) (n / 2 ^ (64 - k))
theorem orN_lt (a b : Nat) : orN a b < 18446744073709551616 := Nat.or_lt_two_pow (n := 64) (Nat.mod_lt _ (by decide)) (Nat.mod_lt _ (by decide))
theorem xorN_lt (a b : Nat) : xorN a b < 18446744073709551616 := Nat.xor_lt_two_pow (n := 64) (Nat.mod_lt _ (by decide)) (Nat.mod_lt _ (by decide))
theorem addN_lt (a b : Nat) : addN a b < 18446744073709551616 := Nat.mod_lt _ (by decide)
theorem turnN_lt (n k : Nat) : turnN n k < 18446744073709551616 := orN_lt _ _
theorem bits_or (a b : Nat) : bits BinOp.or .u64 (a : Int) (b : Int) = ((orN a b : Nat) : Int) := by
  show IntKind.u64.wrap ((BitVec.ofInt 64 (a : Int) ||| BitVec.ofInt 64 (b : Int)).toNat : Int) = _
  have e (a : Nat) : (BitVec.ofInt 64 (a : Int)).toNat = a % 18446744073709551616 := by rw [BitVec.toNat_ofInt]; show ((a : Int) % 18446744073709551616).toNat = _; omega
  rw [BitVec.toNat_or, e, e]
  exact u64_wrap_nat _ (orN_lt a b)
theorem bits_xor (a b : Nat) : bits BinOp.xor .u64 (a : Int) (b : Int) = ((xorN a b : Nat) : Int) := by
  show IntKind.u64.wrap ((BitVec.ofInt 64 (a : Int) ^^^ BitVec.ofInt 64 (b : Int)).toNat : Int) = _
  have e (a : Nat) : (BitVec.ofInt 64 (a : Int)).toNat = a % 18446744073709551616 := by rw [BitVec.toNat_ofInt]; show ((a : Int) % 18446744073709551616).toNat = _; omega
  rw [BitVec.toNat_xor, e, e]
  exact u64_wrap_nat _ (xorN_lt a b)
theorem wrap_add (a b : Nat) : IntKind.u64.wrap ((a : Int) + (b : Int)) = ((addN a b : Nat) : Int) := by
  rw [IntKind.wrap_u64]; unfold addN; omega

theorem turn_bits (n A B : Nat) (a b : Int) (ha : a = A) (hb : b = B) :
    Ending.returned (.int .u64 (bits BinOp.or .u64 (IntKind.u64.wrap ((n : Int) * a)) ((n : Int) / b))) = Ending.returned (.int .u64 ((orN (n * A % 18446744073709551616) (n / B) : Nat) : Int)) := by
  subst ha hb
  rw [show IntKind.u64.wrap ((n : Int) * (A : Int)) = ((n * A % 18446744073709551616 : Nat) : Int) by rw [IntKind.wrap_u64]; omega, show (n : Int) / (B : Int) = ((n / B : Nat) : Int) by omega, bits_or]

theorem rot_any (n : Nat) (k : Int) (w : World) (hn : n < 18446744073709551616) (hk : k = 13 ∨ k = 16 ∨ k = 17 ∨ k = 21 ∨ k = 32) :
    Calls Try.prog 32 #[.int .u64 n, .int .i64 k] w fun e w' => e = .returned (.int .u64 (turnN n k.toNat)) ∧ w = w' := by
  have a13 : bits BinOp.and .u64 13 63 = 13 := by rfl
  have a16 : bits BinOp.and .u64 16 63 = 16 := by rfl
  have a17 : bits BinOp.and .u64 17 63 = 17 := by rfl
  have a21 : bits BinOp.and .u64 21 63 = 21 := by rfl
  have a32 : bits BinOp.and .u64 32 63 = 32 := by rfl
  rcases hk with rfl | rfl | rfl | rfl | rfl
  all_goals
    go_enter Try.func32, Try.ntmps32
    go_wp2_with fail
    go_ret
    exact ⟨turn_bits n _ _ _ _ (by rfl) (by rfl), rfl⟩

theorem turn_any15 (n : Nat) (k : Int) (w : World) (hn : n < 18446744073709551616) (hk : k = 13 ∨ k = 16 ∨ k = 17 ∨ k = 21 ∨ k = 32) :
    Calls Try.prog 33 #[.int .u64 n, .int .i64 k] w fun e w' => e = .returned (.int .u64 (turnN n k.toNat)) ∧ w = w' := by
  rcases hk with rfl | rfl | rfl | rfl | rfl
  all_goals
    go_enter Try.func33, Try.ntmps33
    go_wp2_with fail
    go_ret
    exact ⟨turn_bits n _ _ _ _ (by rfl) (by rfl), rfl⟩

/-- a round of the four words -/
def roundN (s : Nat × Nat × Nat × Nat) : Nat × Nat × Nat × Nat :=
  let a1 := addN s.1 s.2.1
  let b1 := xorN (turnN s.2.1 13) a1
  let a2 := turnN a1 32
  let c1 := addN s.2.2.1 s.2.2.2
  let d1 := xorN (turnN s.2.2.2 16) c1
  let a3 := addN a2 d1
  let d2 := xorN (turnN d1 21) a3
  let c2 := addN c1 b1
  let b2 := xorN (turnN b1 17) c2
  let c3 := turnN c2 32
  (a3, b2, c3, d2)
/-- words all -/
def Okw (s : Nat × Nat × Nat × Nat) : Prop := s.1 < 18446744073709551616 ∧ s.2.1 < 18446744073709551616 ∧ s.2.2.1 < 18446744073709551616 ∧ s.2.2.2 < 18446744073709551616
theorem Okw.round {s : Nat × Nat × Nat × Nat} (h : Okw s) : Okw (roundN s) := ⟨addN_lt _ _, xorN_lt _ _, turnN_lt _ _, xorN_lt _ _⟩
def aggN (s : Nat × Nat × Nat × Nat) : Value := .agg #[.int .u64 s.1, .int .u64 s.2.1, .int .u64 s.2.2.1, .int .u64 s.2.2.2]

set_option maxRecDepth 100000 in
set_option maxHeartbeats 1000000 in
theorem refRound_any (a b c d : Nat) (w : World) (h : Okw (a, b, c, d)) :
    Calls Try.prog 29 #[aggN (a, b, c, d)] w fun e w' => e = .returned (aggN (roundN (a, b, c, d))) ∧ Below w.heap.size w w' := by
  have hadd := wrap_add
  have hxor := bits_xor
  obtain ⟨ha, hb, hc, hd⟩ := h
  simp only at ha hb hc hd
  obtain ⟨a1, e1⟩ : ∃ x, x = addN a b := ⟨_, rfl⟩
  obtain ⟨tb, e2⟩ : ∃ x, x = turnN b (Int.toNat 13) := ⟨_, rfl⟩
  obtain ⟨b1, e3⟩ : ∃ x, x = xorN tb a1 := ⟨_, rfl⟩
  obtain ⟨a2, e4⟩ : ∃ x, x = turnN a1 (Int.toNat 32) := ⟨_, rfl⟩
  obtain ⟨c1, e5⟩ : ∃ x, x = addN c d := ⟨_, rfl⟩
  obtain ⟨td, e6⟩ : ∃ x, x = turnN d (Int.toNat 16) := ⟨_, rfl⟩
  obtain ⟨d1, e7⟩ : ∃ x, x = xorN td c1 := ⟨_, rfl⟩
  obtain ⟨a3, e8⟩ : ∃ x, x = addN a2 d1 := ⟨_, rfl⟩
  obtain ⟨td1, e9⟩ : ∃ x, x = turnN d1 (Int.toNat 21) := ⟨_, rfl⟩
  obtain ⟨d2, e10⟩ : ∃ x, x = xorN td1 a3 := ⟨_, rfl⟩
  obtain ⟨c2, e11⟩ : ∃ x, x = addN c1 b1 := ⟨_, rfl⟩
  obtain ⟨tb1, e12⟩ : ∃ x, x = turnN b1 (Int.toNat 17) := ⟨_, rfl⟩
  obtain ⟨b2, e13⟩ : ∃ x, x = xorN tb1 c2 := ⟨_, rfl⟩
  obtain ⟨c3, e14⟩ : ∃ x, x = turnN c2 (Int.toNat 32) := ⟨_, rfl⟩
  have hR : roundN (a, b, c, d) = (a3, b2, c3, d2) := by subst e1 e2 e3 e4 e5 e6 e7 e8 e9 e10 e11 e12 e13 e14; rfl
  have l1 : a1 < 18446744073709551616 := by rw [e1]; exact addN_lt _ _
  have l3 : b1 < 18446744073709551616 := by rw [e3]; exact xorN_lt _ _
  have l5 : c1 < 18446744073709551616 := by rw [e5]; exact addN_lt _ _
  have l7 : d1 < 18446744073709551616 := by rw [e7]; exact xorN_lt _ _
  have l11 : c2 < 18446744073709551616 := by rw [e11]; exact addN_lt _ _
  have f1 := hadd a b; rw [← e1] at f1
  have f3 := hxor tb a1; rw [← e3] at f3
  have f5 := hadd c d; rw [← e5] at f5
  have f7 := hxor td c1; rw [← e7] at f7
  have f8 := hadd a2 d1; rw [← e8] at f8
  have f10 := hxor td1 a3; rw [← e10] at f10
  have f11 := hadd c1 b1; rw [← e11] at f11
  have f13 := hxor tb1 c2; rw [← e13] at f13
  have E2 := Lib.hid e2
  have E4 := Lib.hid e4
  have E6 := Lib.hid e6
  have E9 := Lib.hid e9
  have E12 := Lib.hid e12
  have E14 := Lib.hid e14
  rw [hR]
  clear hadd hxor e1 e2 e3 e4 e5 e6 e7 e8 e9 e10 e11 e12 e13 e14 hR
  unfold aggN
  go_enter Try.func29, Try.ntmps29
  go_wp2_with (first
    | (go_at_call 33; (with_reducible show Calls _ _ #[.int .u64 b, _] _ _); refine (turn_any15 b 13 _ hb (by omega)).mono ?_; rw [← E2.out]; rintro e w' ⟨rfl, rfl⟩)
    | (go_at_call 33; (with_reducible show Calls _ _ #[.int .u64 a1, _] _ _); refine (turn_any15 a1 32 _ l1 (by omega)).mono ?_; rw [← E4.out]; rintro e w' ⟨rfl, rfl⟩)
    | (go_at_call 33; (with_reducible show Calls _ _ #[.int .u64 d, _] _ _); refine (turn_any15 d 16 _ hd (by omega)).mono ?_; rw [← E6.out]; rintro e w' ⟨rfl, rfl⟩)
    | (go_at_call 33; (with_reducible show Calls _ _ #[.int .u64 d1, _] _ _); refine (turn_any15 d1 21 _ l7 (by omega)).mono ?_; rw [← E9.out]; rintro e w' ⟨rfl, rfl⟩)
    | (go_at_call 33; (with_reducible show Calls _ _ #[.int .u64 b1, _] _ _); refine (turn_any15 b1 17 _ l3 (by omega)).mono ?_; rw [← E12.out]; rintro e w' ⟨rfl, rfl⟩)
    | (go_at_call 33; (with_reducible show Calls _ _ #[.int .u64 c2, _] _ _); refine (turn_any15 c2 32 _ l11 (by omega)).mono ?_; rw [← E14.out]; rintro e w' ⟨rfl, rfl⟩))
  refine bodyPost_ret (results_cell_row (p := 2) (ty := 54) rfl _ _ (w.heap.size + 1) _ _ _ _ rfl (heap_alloc2_new _ _ _) Try.underlying54 rfl (by kernel_rfl)) rfl ⟨rfl, ?_⟩
  exact ((Below.refl _ _).alloc (Nat.le_refl _) _).alloc (by simp) _
end Go.Proofs.Ytndmpphkgcjnkaa
