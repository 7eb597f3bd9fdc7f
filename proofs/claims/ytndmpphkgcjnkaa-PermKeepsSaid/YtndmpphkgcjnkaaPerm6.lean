/-
  Chapter 16: the anchor, walked; the laws PermPrimes, PermNext, PermChoice, walked.
-/
import Derived.Test.YtndmpphkgcjnkaaPerm5
namespace Go.Proofs.Ytndmpphkgcjnkaa
open Go.RowKit Go.Sort
set_option linter.unusedVariables false

theorem cast_lit (n : Nat) (z : Int) (h : z = n) : (n : Int) = z := h.symm
def sA : ByteArray := ⟨#[97]⟩
def k0 : List UInt8 := List.replicate 16 0
theorem choice_int (off skip size i : Int) (r : Int) (w : World) (hr : ((choiceN off.toNat skip.toNat size.toNat i.toNat : Nat) : Int) = r) (ho : 0 ≤ off ∧ off < 65538) (hs : 0 ≤ skip ∧ skip < 65538) (h0 : 0 < size ∧ size < 65538) (hi : 0 ≤ i ∧ i ≤ 4611686018427387904) :
    Calls Try.prog 19 #[.int .i64 off, .int .i64 skip, .int .i64 size, .int .i64 i] w fun e w' => e = .returned (.int .i64 r) ∧ w = w' := by
  subst hr
  have := choice_any off.toNat skip.toNat size.toNat i.toNat w (by omega) (by omega) (by omega) (by omega) (by omega)
  rwa [Int.toNat_of_nonneg ho.1, Int.toNat_of_nonneg hs.1, Int.toNat_of_nonneg (by omega), Int.toNat_of_nonneg hi.1] at this
theorem next_eq (n : Int) (r : Int) (hr : ((nextP n : Nat) : Int) = r) (h1 : -4611686018427387904 ≤ n) (h2 : n ≤ 4611686018427387904) (w : World) :
    Calls Try.prog 12 #[.int .i64 n] w fun e w' => e = .returned (.int .i64 r) ∧ w = w' := by
  subst hr
  exact next_any n h1 h2 w

set_option maxRecDepth 100000 in
set_option maxHeartbeats 1000000 in
theorem awake_any (w : World) : Calls Try.prog 9 #[] w fun e w' => e = .returned (.bool true) ∧ Below w.heap.size w w' := by
  obtain ⟨O, hO⟩ : ∃ O, O = offN k0 sA 2 := ⟨_, rfl⟩
  have hO1 : O ≤ 1 := by rw [hO]; unfold offN; omega
  have HO := Lib.hid hO
  have HK : Hid (skipN k0 sA 2 = 1) := Lib.hid (by unfold skipN; omega)
  have HB := Lib.hid (Below.refl w.heap.size w)
  clear hO
  go_enter Try.func9, Try.ntmps9
  go_wp2_with (first
    | (go_at_call 14; go_must (refine (permOf_any k0 rfl sA (by decide) 2 (by omega) (by omega) _).mono ?_); rintro e w6 ⟨he, hb6⟩; rw [← HO.out, HK.out] at he; subst he; (first | (have HB' := cB HB (by repeat (first | exact Below.refl _ _ | refine Below.drew ?_ | refine Below.trans ?_ (below_drewN _ _ _) | refine Below.alloc ?_ (by first | exact Nat.le_refl _ | (simp; done) | (simp; omega)) _)) hb6; clear HB; have HB := HB'; clear HB') | (have HB' := cO HB (by repeat (first | exact Below.refl _ _ | refine Below.drew ?_ | refine Below.trans ?_ (below_drewN _ _ _) | refine Below.alloc ?_ (by first | exact Nat.le_refl _ | (simp; done) | (simp; omega)) _)) hb6; clear HB; have HB := HB'; clear HB') | (have HB' := cK HB (by repeat (first | exact Below.refl _ _ | refine Below.drew ?_ | refine Below.trans ?_ (below_drewN _ _ _) | refine Below.alloc ?_ (by first | exact Nat.le_refl _ | (simp; done) | (simp; omega)) _)) hb6; clear HB; have HB := HB'; clear HB') | (have HB' := cP HB (by repeat (first | exact Below.refl _ _ | refine Below.drew ?_ | refine Below.trans ?_ (below_drewN _ _ _) | refine Below.alloc ?_ (by first | exact Nat.le_refl _ | (simp; done) | (simp; omega)) _)) hb6; clear HB; have HB := HB'; clear HB')); clear hb6)
    | (go_at_call 10; (with_reducible show Calls _ _ #[.int .i64 2] _ _); go_must (refine (prime_eq 2 true (by decide +kernel) (by omega) (by omega) _).mono ?_); rintro e w' ⟨rfl, rfl⟩)
    | (go_at_call 10; (with_reducible show Calls _ _ #[.int .i64 65537] _ _); go_must (refine (prime_eq 65537 true (by decide +kernel) (by omega) (by omega) _).mono ?_); rintro e w' ⟨rfl, rfl⟩)
    | (go_at_call 10; (with_reducible show Calls _ _ #[.int .i64 1] _ _); go_must (refine (prime_eq 1 false (by decide +kernel) (by omega) (by omega) _).mono ?_); rintro e w' ⟨rfl, rfl⟩)
    | (go_at_call 10; (with_reducible show Calls _ _ #[.int .i64 (-7)] _ _); go_must (refine (prime_eq (-7) false (by decide +kernel) (by omega) (by omega) _).mono ?_); rintro e w' ⟨rfl, rfl⟩)
    | (go_at_call 10; (with_reducible show Calls _ _ #[.int .i64 9] _ _); go_must (refine (prime_eq 9 false (by decide +kernel) (by omega) (by omega) _).mono ?_); rintro e w' ⟨rfl, rfl⟩)
    | (go_at_call 12; (with_reducible show Calls _ _ #[.int .i64 8] _ _); go_must (refine (next_eq 8 11 (by decide +kernel) (by omega) (by omega) _).mono ?_); rintro e w' ⟨rfl, rfl⟩)
    | (go_at_call 12; (with_reducible show Calls _ _ #[.int .i64 65536] _ _); go_must (refine (next_eq 65536 65537 (by decide +kernel) (by omega) (by omega) _).mono ?_); rintro e w' ⟨rfl, rfl⟩)
    | (go_at_call 12; (with_reducible show Calls _ _ #[.int .i64 65538] _ _); go_must (refine (next_eq 65538 0 (by decide +kernel) (by omega) (by omega) _).mono ?_); rintro e w' ⟨rfl, rfl⟩)
    | (go_at_call 12; (with_reducible show Calls _ _ #[.int .i64 (-5)] _ _); go_must (refine (next_eq (-5) 2 (by decide +kernel) (by omega) (by omega) _).mono ?_); rintro e w' ⟨rfl, rfl⟩)
    | (go_at_call 19; go_must (refine (choice_int 3 2 5 4 1 _ (by decide) (by omega) (by omega) (by omega) (by omega)).mono ?_); rintro e w' ⟨rfl, rfl⟩)
    | (go_at_call 17; go_must (refine (all_any k0 rfl sA (by decide) 7 (by omega) (by omega) _).mono ?_); intro e w6 hr6; unfold RetI at hr6; obtain ⟨ad6, c6, rfl, ho6, hb6⟩ := hr6; (first | (have HB' := cB HB (by repeat (first | exact Below.refl _ _ | refine Below.drew ?_ | refine Below.trans ?_ (below_drewN _ _ _) | refine Below.alloc ?_ (by first | exact Nat.le_refl _ | (simp; done) | (simp; omega)) _)) hb6; clear HB; have HB := HB'; clear HB') | (have HB' := cO HB (by repeat (first | exact Below.refl _ _ | refine Below.drew ?_ | refine Below.trans ?_ (below_drewN _ _ _) | refine Below.alloc ?_ (by first | exact Nat.le_refl _ | (simp; done) | (simp; omega)) _)) hb6; clear HB; have HB := HB'; clear HB') | (have HB' := cK HB (by repeat (first | exact Below.refl _ _ | refine Below.drew ?_ | refine Below.trans ?_ (below_drewN _ _ _) | refine Below.alloc ?_ (by first | exact Nat.le_refl _ | (simp; done) | (simp; omega)) _)) hb6; clear HB; have HB := HB'; clear HB') | (have HB' := cP HB (by repeat (first | exact Below.refl _ _ | refine Below.drew ?_ | refine Below.trans ?_ (below_drewN _ _ _) | refine Below.alloc ?_ (by first | exact Nat.le_refl _ | (simp; done) | (simp; omega)) _)) hb6; clear HB; have HB := HB'; clear HB')); clear hb6 ho6))
  go_ret
  exact ⟨rfl, HB.out⟩

theorem primes_walk (n : Int) (h0 : -2147483648 ≤ n) (h1 : n ≤ 2147483647) (w : World) :
    Calls Try.prog 3 #[.int .i32 n] w fun e w' => e = .returned (.bool true) ∧ Below w.heap.size w w' := by
  have HB := Lib.hid (Below.refl w.heap.size w)
  obtain ⟨b, hb⟩ : ∃ b, b = pr n.toNat := ⟨_, rfl⟩
  have HBB := Lib.hid hb.symm
  obtain ⟨P, hP⟩ : ∃ P, P = nextP n := ⟨_, rfl⟩
  have HP := Lib.hid hP
  clear hb hP
  go_enter Try.func3, Try.ntmps3
  go_wp2_with (first
    | (go_at_call 9; go_must (refine (awake_any _).mono ?_); rintro e w6 ⟨rfl, hb6⟩; (first | (have HB' := cB HB (by repeat (first | exact Below.refl _ _ | refine Below.drew ?_ | refine Below.trans ?_ (below_drewN _ _ _) | refine Below.alloc ?_ (by first | exact Nat.le_refl _ | (simp; done) | (simp; omega)) _)) hb6; clear HB; have HB := HB'; clear HB') | (have HB' := cO HB (by repeat (first | exact Below.refl _ _ | refine Below.drew ?_ | refine Below.trans ?_ (below_drewN _ _ _) | refine Below.alloc ?_ (by first | exact Nat.le_refl _ | (simp; done) | (simp; omega)) _)) hb6; clear HB; have HB := HB'; clear HB') | (have HB' := cK HB (by repeat (first | exact Below.refl _ _ | refine Below.drew ?_ | refine Below.trans ?_ (below_drewN _ _ _) | refine Below.alloc ?_ (by first | exact Nat.le_refl _ | (simp; done) | (simp; omega)) _)) hb6; clear HB; have HB := HB'; clear HB') | (have HB' := cP HB (by repeat (first | exact Below.refl _ _ | refine Below.drew ?_ | refine Below.trans ?_ (below_drewN _ _ _) | refine Below.alloc ?_ (by first | exact Nat.le_refl _ | (simp; done) | (simp; omega)) _)) hb6; clear HB; have HB := HB'; clear HB')); clear hb6)
    | (go_at_call 10; go_must (refine (prime_eq n b HBB.out (by omega) (by omega) _).mono ?_); rintro e w' ⟨rfl, rfl⟩)
    | (go_at_call 11; go_must (refine (refPrime_eq n b HBB.out (by omega) (by omega) _).mono ?_); rintro e w' ⟨rfl, rfl⟩)
    | (go_at_call 12; go_must (refine (next_any n (by omega) (by omega) _).mono ?_); rintro e w' ⟨he, rfl⟩; rw [← HP.out] at he; subst he)
    | (go_at_call 13; go_must (refine (refNext_any n (by omega) (by omega) _).mono ?_); rintro e w' ⟨he, rfl⟩; rw [← HP.out] at he; subst he))
  all_goals
    go_ret
    exact ⟨by simp, HB.out⟩
end Go.Proofs.Ytndmpphkgcjnkaa
