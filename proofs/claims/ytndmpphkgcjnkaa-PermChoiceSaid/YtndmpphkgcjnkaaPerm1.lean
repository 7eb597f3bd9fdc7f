/-
  Chapter 16: primes and the next one, walked.
-/
import Derived.Test.YtndmpphkgcjnkaaOctet
import Derived.Test.YtndmpphkgcjnkaaPlainPerm
namespace Go.Proofs.Ytndmpphkgcjnkaa
open Go.RowKit Go.Sort
set_option linter.unusedVariables false

theorem prime_nat (m : Nat) (h2 : 2 ≤ m) (hm : m ≤ 4611686018427387904) (w : World) :
    Calls Try.prog 10 #[.int .i64 (m : Int)] w fun e w' => e = .returned (.bool (pr m)) ∧ w = w' := by
  go_enter Try.func10, Try.ntmps10
  have h2' : ¬ ((m : Int) < 2) := by omega
  go_wp2
  go_loop [3] (fun i => ∃ d : Nat, 2 ≤ d ∧ d ≤ m ∧ i = .int .i64 d ∧ Hid (∀ e, 2 ≤ e → e < d → m % e ≠ 0)) (fun i => m + 1 - (intOf i).toNat)
  case atStart => exact ⟨2, Nat.le_refl _, h2, rfl, Lib.hid (fun e a b => by omega)⟩
  case round =>
    obtain ⟨d, hd2, hdm, rfl, hno⟩ := hrel
    have hd0 : (0 : Int) < d := by omega
    obtain ⟨q, hqn⟩ : ∃ q, q = m / d := ⟨_, rfl⟩
    have hqe : (m : Int) / (d : Int) = (q : Int) := by rw [hqn]; exact (Int.natCast_ediv m d).symm
    have hqm : q ≤ m := by rw [hqn]; exact Nat.div_le_self m d
    have hiff : d ≤ q ↔ d * d ≤ m := by rw [hqn]; exact Nat.le_div_iff_mul_le (by omega)
    have HQ := Lib.hid hiff
    clear hiff hqn
    by_cases hq : d ≤ q
    · have hdd := HQ.out.1 hq
      have hlt : d + 1 ≤ m := by
        have : d * 2 ≤ d * d := Nat.mul_le_mul_left d hd2
        omega
      by_cases h0 : m % d = 0
      · have hz : (m : Int) % d = 0 := by rw [← Int.natCast_emod, h0]; rfl
        have hp := Lib.hid (pr_false hd2 hdd h0)
        clear h0 hdd
        go_wp2
        go_ret
        exact ⟨by rw [hp.out]; rfl, rfl⟩
      · have hz : ¬ ((m : Int) % d = 0) := by rw [← Int.natCast_emod]; intro h; exact h0 (by omega)
        have hn2 : Hid (∀ e, 2 ≤ e → e < d + 1 → m % e ≠ 0) := Lib.hid (fun e a b => by
          by_cases e1 : e = d
          · rw [e1]; exact h0
          · exact hno.out e a (by omega))
        clear h0 hdd hno
        go_wp2
        go_round
        case rel => exact ⟨d + 1, by omega, hlt, by go_num, hn2⟩
        case measure => simp [intOf]; omega
    · have hdd : ¬ d * d ≤ m := fun h => hq (HQ.out.2 h)
      have hp : Hid (pr m = true) := Lib.hid ((pr_iff m).2 ⟨h2, fun e a b => hno.out e a (by
        rcases Nat.lt_or_ge e d with h | h
        · exact h
        · have := Nat.mul_le_mul h h; omega)⟩)
      clear hdd hno
      go_wp2
      go_ret
      exact ⟨by rw [hp.out]; rfl, rfl⟩
theorem prime_eq (n : Int) (b : Bool) (hb : pr n.toNat = b) (hn : n ≤ 4611686018427387904) (hn2 : -9223372036854775808 ≤ n) (w : World) :
    Calls Try.prog 10 #[.int .i64 n] w fun e w' => e = .returned (.bool b) ∧ w = w' := by
  subst hb
  by_cases h2 : n < 2
  · have hp := Lib.hid (pr_small (show n.toNat < 2 by omega))
    go_enter Try.func10, Try.ntmps10
    go_wp2
    go_ret
    exact ⟨by rw [hp.out]; rfl, rfl⟩
  · have := prime_nat n.toNat (by omega) (by omega) w
    rwa [Int.toNat_of_nonneg (by omega)] at this

theorem refPrime_nat (m : Nat) (h2 : 2 ≤ m) (hm : m ≤ 1152921504606846976) (w : World) :
    Calls Try.prog 11 #[.int .i64 (m : Int)] w fun e w' => e = .returned (.bool (pr m)) ∧ w = w' := by
  go_enter Try.func11, Try.ntmps11
  have h2' : ¬ ((m : Int) < 2) := by omega
  go_wp2
  go_loop [3] (fun i => ∃ d : Nat, 2 ≤ d ∧ d ≤ m ∧ d ≤ 1073741825 ∧ i = .int .i64 d ∧ Hid (∀ e, 2 ≤ e → e < d → m % e ≠ 0)) (fun i => m + 1 - (intOf i).toNat)
  case atStart => exact ⟨2, Nat.le_refl _, h2, by omega, rfl, Lib.hid (fun e a b => by omega)⟩
  case round =>
    obtain ⟨d, hd2, hdm, hd3, rfl, hno⟩ := hrel
    have hd0 : (0 : Int) < d := by omega
    obtain ⟨s, hs⟩ : ∃ s, s = d * d := ⟨_, rfl⟩
    have hsi : (d : Int) * (d : Int) = (s : Int) := by rw [hs, Int.natCast_mul]
    have hsb : s ≤ 1152921506754330625 := by rw [hs]; exact Nat.mul_le_mul hd3 hd3
    by_cases hdd : s ≤ m
    · have hlt : d + 1 ≤ m := by
        have : d * 2 ≤ d * d := Nat.mul_le_mul_left d hd2
        omega
      have hd4 : d + 1 ≤ 1073741825 := by
        rcases Nat.lt_or_ge d 1073741825 with h | h
        · exact h
        · have := Nat.mul_le_mul h h; omega
      by_cases h0 : m % d = 0
      · have hz : (m : Int) % d = 0 := by rw [← Int.natCast_emod, h0]; rfl
        have hp := Lib.hid (pr_false hd2 (by rw [← hs]; exact hdd) h0)
        clear h0 hs
        go_wp2
        go_ret
        exact ⟨by rw [hp.out]; rfl, rfl⟩
      · have hz : ¬ ((m : Int) % d = 0) := by rw [← Int.natCast_emod]; intro h; exact h0 (by omega)
        have hn2 : Hid (∀ e, 2 ≤ e → e < d + 1 → m % e ≠ 0) := Lib.hid (fun e a b => by
          by_cases e1 : e = d
          · rw [e1]; exact h0
          · exact hno.out e a (by omega))
        clear h0 hs hno
        go_wp2
        go_round
        case rel => exact ⟨d + 1, by omega, hlt, hd4, by go_num, hn2⟩
        case measure => simp [intOf]; omega
    · have hp : Hid (pr m = true) := Lib.hid ((pr_iff m).2 ⟨h2, fun e a b => hno.out e a (by
        rcases Nat.lt_or_ge e d with h | h
        · exact h
        · have := Nat.mul_le_mul h h; omega)⟩)
      clear hs hno
      go_wp2
      go_ret
      exact ⟨by rw [hp.out]; rfl, rfl⟩
theorem refPrime_eq (n : Int) (b : Bool) (hb : pr n.toNat = b) (hn : n ≤ 1152921504606846976) (hn2 : -9223372036854775808 ≤ n) (w : World) :
    Calls Try.prog 11 #[.int .i64 n] w fun e w' => e = .returned (.bool b) ∧ w = w' := by
  subst hb
  by_cases h2 : n < 2
  · have hp := Lib.hid (pr_small (show n.toNat < 2 by omega))
    go_enter Try.func11, Try.ntmps11
    go_wp2
    go_ret
    exact ⟨by rw [hp.out]; rfl, rfl⟩
  · have := refPrime_nat n.toNat (by omega) (by omega) w
    rwa [Int.toNat_of_nonneg (by omega)] at this
end Go.Proofs.Ytndmpphkgcjnkaa
