/-
  Chapter 16: the next prime, a choice, walked.
-/
import Derived.Test.YtndmpphkgcjnkaaPerm1
namespace Go.Proofs.Ytndmpphkgcjnkaa
open Go.RowKit Go.Sort
set_option linter.unusedVariables false

theorem nxt_hit {p : Nat} (h : p ≤ 65537) (hp : pr p = true) : nxt (65538 - p) p = p := by
  obtain ⟨f, hf⟩ : ∃ f, 65538 - p = f + 1 := ⟨65537 - p, by omega⟩
  rw [hf, nxt, if_pos hp]
theorem nxt_miss {p : Nat} (h : p ≤ 65537) (hp : pr p = false) : nxt (65538 - p) p = nxt (65538 - (p + 1)) (p + 1) := by
  obtain ⟨f, hf⟩ : ∃ f, 65538 - p = f + 1 := ⟨65537 - p, by omega⟩
  rw [hf, nxt, hp, show 65538 - (p + 1) = f by omega]
  rfl
theorem nxt_out {p : Nat} (h : ¬ p ≤ 65537) : nxt (65538 - p) p = 0 := by
  rw [show 65538 - p = 0 by omega]
  rfl

set_option maxHeartbeats 1000000 in
theorem next_any (n : Int) (h1 : -4611686018427387904 ≤ n) (h2 : n ≤ 4611686018427387904) (w : World) :
    Calls Try.prog 12 #[.int .i64 n] w fun e w' => e = .returned (.int .i64 ((nextP n : Nat) : Int)) ∧ w = w' := by
  have hl := low_le n
  obtain ⟨X, hX⟩ : ∃ X, X = nextP n := ⟨_, rfl⟩
  have hX0 : Hid (X = nxt (65538 - low n) (low n)) := Lib.hid hX
  rw [← hX]
  have hc : (n < 2 ∧ low n = 2) ∨ (n = 2 ∧ low n = 2) ∨ (2 < n ∧ (low n : Int) = n) := by omega
  have hlb : low n ≤ 4611686018427387904 ∧ 2 ≤ low n := by omega
  clear hX hl
  generalize low n = p0 at *
  obtain ⟨hb1, hb2⟩ := hlb
  go_enter Try.func12, Try.ntmps12
  rcases hc with ⟨ha, rfl⟩ | ⟨rfl, rfl⟩ | ⟨ha, hb⟩
  all_goals
    (try subst hb)
    go_wp2_with fail
    go_loop [3] (fun i => ∃ p : Nat, 2 ≤ p ∧ p ≤ 4611686018427387904 ∧ i = .int .i64 p ∧ Hid (X = nxt (65538 - p) p)) (fun i => 65538 - (intOf i).toNat)
    case atStart => exact ⟨_, by omega, by omega, by go_num, hX0⟩
    case round =>
      obtain ⟨p, hp2, hpm, rfl, hX⟩ := hrel
      by_cases hle : p ≤ 65537
      · cases hp : pr p
        · have HP := Lib.hid (show pr (p : Int).toNat = false by simpa using hp)
          have HX := Lib.hid (hX.out.trans (nxt_miss hle hp))
          clear hp hX hX0
          go_wp2_with (go_at_call 10; go_must (refine (prime_eq _ _ HP.out (by omega) (by omega) _).mono ?_); rintro e w' ⟨rfl, rfl⟩)
          go_round
          case rel => exact ⟨p + 1, by omega, by omega, by go_num, HX⟩
          case measure => simp [intOf]; omega
        · have HP := Lib.hid (show pr (p : Int).toNat = true by simpa using hp)
          have HX := Lib.hid (hX.out.trans (nxt_hit hle hp))
          clear hp hX hX0
          go_wp2_with (go_at_call 10; go_must (refine (prime_eq _ _ HP.out (by omega) (by omega) _).mono ?_); rintro e w' ⟨rfl, rfl⟩)
          go_ret
          exact ⟨by rw [HX.out]; rfl, rfl⟩
      · have HX := Lib.hid (hX.out.trans (nxt_out hle))
        clear hX hX0
        go_wp2_with fail
        go_ret
        exact ⟨by rw [HX.out]; rfl, rfl⟩
set_option maxHeartbeats 1000000 in
theorem refNext_any (n : Int) (h1 : -4611686018427387904 ≤ n) (h2 : n ≤ 4611686018427387904) (w : World) :
    Calls Try.prog 13 #[.int .i64 n] w fun e w' => e = .returned (.int .i64 ((nextP n : Nat) : Int)) ∧ w = w' := by
  have hl := low_le n
  obtain ⟨X, hX⟩ : ∃ X, X = nextP n := ⟨_, rfl⟩
  have hX0 : Hid (X = nxt (65538 - low n) (low n)) := Lib.hid hX
  rw [← hX]
  have hc : (n < 2 ∧ low n = 2) ∨ (2 ≤ n ∧ (low n : Int) = n) := by omega
  have hlb : low n ≤ 4611686018427387904 ∧ 2 ≤ low n := by omega
  clear hX hl
  generalize low n = p0 at *
  obtain ⟨hb1, hb2⟩ := hlb
  go_enter Try.func13, Try.ntmps13
  rcases hc with ⟨ha, rfl⟩ | ⟨ha, hb⟩
  all_goals
    (try subst hb)
    go_wp2_with fail
    go_loop [3] (fun i => ∃ p : Nat, 2 ≤ p ∧ p ≤ 4611686018427387904 ∧ i = .int .i64 p ∧ Hid (X = nxt (65538 - p) p)) (fun i => 65538 - (intOf i).toNat)
    case atStart => exact ⟨_, by omega, by omega, by go_num, hX0⟩
    case round =>
      obtain ⟨p, hp2, hpm, rfl, hX⟩ := hrel
      by_cases hle : p ≤ 65537
      · cases hp : pr p
        · have HP := Lib.hid (show pr (p : Int).toNat = false by simpa using hp)
          have HX := Lib.hid (hX.out.trans (nxt_miss hle hp))
          clear hp hX hX0
          go_wp2_with (go_at_call 11; go_must (refine (refPrime_eq _ _ HP.out (by omega) (by omega) _).mono ?_); rintro e w' ⟨rfl, rfl⟩)
          go_round
          case rel => exact ⟨p + 1, by omega, by omega, by go_num, HX⟩
          case measure => simp [intOf]; omega
        · have HP := Lib.hid (show pr (p : Int).toNat = true by simpa using hp)
          have HX := Lib.hid (hX.out.trans (nxt_hit hle hp))
          clear hp hX hX0
          go_wp2_with (go_at_call 11; go_must (refine (refPrime_eq _ _ HP.out (by omega) (by omega) _).mono ?_); rintro e w' ⟨rfl, rfl⟩)
          go_ret
          exact ⟨by rw [HX.out]; rfl, rfl⟩
      · have HX := Lib.hid (hX.out.trans (nxt_out hle))
        clear hX hX0
        go_wp2_with fail
        go_ret
        exact ⟨by rw [HX.out]; rfl, rfl⟩

theorem choice_any (off skip size i : Nat) (w : World) (ho : off < 65538) (hs : skip < 65538) (h0 : 0 < size) (h1 : size < 65538) (hi : i ≤ 4611686018427387904) :
    Calls Try.prog 19 #[.int .i64 off, .int .i64 skip, .int .i64 size, .int .i64 i] w fun e w' => e = .returned (.int .i64 ((choiceN off skip size i : Nat) : Int)) ∧ w = w' := by
  obtain ⟨r, hr⟩ : ∃ r, r = i % size := ⟨_, rfl⟩
  have hri : (i : Int) % (size : Int) = (r : Int) := by rw [hr, Int.natCast_emod]
  have hrl : r < size := by rw [hr]; exact Nat.mod_lt _ h0
  obtain ⟨q, hq⟩ : ∃ q, q = r * skip := ⟨_, rfl⟩
  have hqi : (r : Int) * (skip : Int) = (q : Int) := by rw [hq, Int.natCast_mul]
  have hqb : q ≤ 4295360521 := by
    rw [hq]
    have := Nat.mul_le_mul (show r ≤ 65538 by omega) (show skip ≤ 65538 by omega)
    omega
  obtain ⟨z, hz⟩ : ∃ z, z = (off + q) % size := ⟨_, rfl⟩
  have hzi : ((off : Int) + (q : Int)) % (size : Int) = (z : Int) := by rw [hz, Int.natCast_emod, Int.natCast_add]
  have hf : Hid (choiceN off skip size i = z) := Lib.hid (by unfold choiceN; rw [← hr, ← hq, hz])
  have hzl : z < size := by rw [hz]; exact Nat.mod_lt _ h0
  clear hr hq hz
  go_enter Try.func19, Try.ntmps19
  go_wp2_with fail
  go_ret
  exact ⟨by rw [hf.out, ← hzi]; rfl, rfl⟩
end Go.Proofs.Ytndmpphkgcjnkaa
