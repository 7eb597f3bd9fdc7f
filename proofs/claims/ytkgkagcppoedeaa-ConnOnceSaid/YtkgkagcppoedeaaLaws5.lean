/-
  The walk of the statement on what whatever flags bring of a TCP flow.
-/
import Derived.Test.YtkgkagcppoedeaaWalks
import Derived.Test.YtkgkagcppoedeaaLaws3
namespace Go.Proofs.Ytkgkagcppoedeaa
open Go.RowKit Go.Sort
set_option linter.unusedVariables false

theorem once_long (s : Int) (a1 : Option Addr) (n1 c1 : Nat) (w : World) (g1 : 1000 < n1) :
    Calls Try.prog 6 #[.int .i64 s, .slice a1 n1 c1] w fun e w' => e = .returned (.bool true) ∧ Below w.heap.size w w' := by
  go_enter Try.func6, Try.ntmps6
  go_wp2_with fail
  refine (awake_any _).mono ?_
  rintro e w1 ⟨rfl, hb1⟩
  go_wp2_with fail
  refine (awake_any _).mono ?_
  rintro e w2 ⟨rfl, hb2⟩
  go_wp2_with fail
  go_ret
  exact ⟨rfl, hb1.trans (hb2.mono hb1.size)⟩

theorem begin_tcp (f : Int) : 1 ≤ beginS 6 f ∧ beginS 6 f ≤ 4 := by
  unfold beginS
  rw [if_neg (by omega), if_pos rfl]
  by_cases h4 : hasB f 4 = true
  · rw [if_pos h4]; omega
  rw [if_neg h4]
  by_cases h1 : hasB f 1 = true
  · rw [if_pos h1]; omega
  rw [if_neg h1]
  by_cases h2 : opensB f = true
  · rw [if_pos h2]; omega
  rw [if_neg h2]; omega

theorem begin_udp (f : Int) : beginS 17 f = 5 := by unfold beginS; rw [if_pos rfl]
theorem runS_udp (l : List Int) : runS 5 l = 5 := by
  unfold runS
  induction l with
  | nil => rfl
  | cons x l ih => rw [List.foldl_cons]; unfold nextS at ih ⊢; rw [if_pos rfl]; exact ih

theorem has_bits (f o : Int) : (bits BinOp.and IntKind.i64 f o != 0) = hasB f o := by unfold hasB; rfl
theorem has_bits' (f o : Int) : (bits BinOp.and IntKind.i64 f o == 0) = !hasB f o := by rw [← has_bits]; simp [bne]

/-- The ways of one step, each with what it says of the flags. -/
theorem step_ways (s f : Int) (h : 1 ≤ s ∧ s ≤ 4) :
    (s = 1 ∧ nextS s f = 1 ∧ hasB f 4 = false) ∨ (s = 1 ∧ nextS s f = 2 ∧ hasB f 4 = false) ∨ (s = 1 ∧ nextS s f = 3 ∧ hasB f 4 = false) ∨ (s = 1 ∧ nextS s f = 4 ∧ hasB f 4 = true) ∨
    (s = 2 ∧ nextS s f = 2 ∧ hasB f 4 = false) ∨ (s = 2 ∧ nextS s f = 3 ∧ hasB f 4 = false) ∨ (s = 2 ∧ nextS s f = 4 ∧ hasB f 4 = true) ∨
    (s = 3 ∧ nextS s f = 3 ∧ hasB f 4 = false) ∨ (s = 3 ∧ nextS s f = 4 ∧ hasB f 4 = true) ∨
    (s = 4 ∧ nextS s f = 1 ∧ hasB f 4 = false ∧ hasB f 2 = true ∧ (!hasB f 16) = true) ∨ (s = 4 ∧ nextS s f = 4) := by
  have ho : opensB f = (hasB f 2 && !hasB f 16) := rfl
  unfold nextS
  rcases (show s = 1 ∨ s = 2 ∨ s = 3 ∨ s = 4 by omega) with rfl | rfl | rfl | rfl
  all_goals
    cases h4 : hasB f 4 <;> cases h1 : hasB f 1 <;> cases h16 : hasB f 16 <;> cases h2 : hasB f 2 <;> simp [ho, h16, h2]

set_option maxHeartbeats 4000000 in
set_option maxRecDepth 100000 in
theorem once_short (s : Int) (a1 : Option Addr) (n1 c1 : Nat) (z1 : List Int) (w : World) (h1 : n1 ≤ 1000)
    (hs1 : Sl w a1 n1 c1 1 (z1.map (Value.int .i64))) :
    Calls Try.prog 6 #[.int .i64 s, .slice a1 n1 c1] w fun e w' => e = .returned (.bool true) ∧ Below w.heap.size w w' := by
  obtain rfl : n1 = z1.length := by have := hs1.len; simp at this; omega
  have H1 := Lib.hid hs1
  clear hs1
  go_enter Try.func6, Try.ntmps6
  go_wp2_with fail
  refine (awake_any _).mono ?_
  rintro e w1 ⟨rfl, hb1⟩
  have HB := Lib.hid hb1
  clear hb1
  go_wp2_with (go_at_call 11; refine (begin_any _ _ _).mono ?_; rintro e w' ⟨rfl, rfl⟩)
  go_loop [5, 6, 7, 8, 9] (fun t i _ _ _ => ∃ (k : Nat) (s' : Int), k ≤ z1.length ∧ i = .int .i64 k ∧ t = .int .i64 s' ∧ 1 ≤ s' ∧ s' ≤ 4) (fun _ i _ _ _ => z1.length - (intOf i).toNat)
  case atStart => exact ⟨0, _, Nat.zero_le _, rfl, rfl, (begin_tcp s).1, (begin_tcp s).2⟩
  case round =>
    obtain ⟨k, s', hk, rfl, rfl, hlo, hhi⟩ := hrel
    by_cases hlt : k < z1.length
    · obtain ⟨b, off, rfl, _, hc⟩ := Ints.of_sl (H1.out.below HB.out) k hlt
      generalize z1.getD k 0 = f at hc
      have hw := step_ways s' f ⟨hlo, hhi⟩
      simp only [← has_bits'] at hw
      simp only [← has_bits] at hw
      clear HB H1
      rcases hw with ⟨rfl, hn, h4⟩ | ⟨rfl, hn, h4⟩ | ⟨rfl, hn, h4⟩ | ⟨rfl, hn, h4⟩ | ⟨rfl, hn, h4⟩ | ⟨rfl, hn, h4⟩ | ⟨rfl, hn, h4⟩ | ⟨rfl, hn, h4⟩ | ⟨rfl, hn, h4⟩ | ⟨rfl, hn, h4, h2, h16⟩ | ⟨rfl, hn⟩
      all_goals
        go_wp2_with (go_at_call 13; refine (next_any _ _ _).mono ?_; rintro e w' ⟨rfl, rfl⟩; simp only [hn])
      all_goals
        go_round
        case rel => exact ⟨k + 1, _, by omega, by go_num, rfl, by omega, by omega⟩
        case measure => simp [intOf]; omega
    · obtain rfl : k = z1.length := by omega
      go_wp2_with (go_at_call 11; refine (begin_any _ _ _).mono ?_; rintro e w' ⟨rfl, rfl⟩; rw [begin_udp])
      refine (run_any _ _ _ z1 _ (by omega) (Ints.of_sl (H1.out.below HB.out))).mono ?_
      rintro e w' ⟨rfl, rfl⟩
      rw [runS_udp]
      go_wp2_with fail
      go_ret
      exact ⟨rfl, HB.out⟩
end Go.Proofs.Ytkgkagcppoedeaa
