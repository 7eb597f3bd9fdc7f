/-
  The walks of the seven statements on flows' states: each returns true and makes new blocks alone.
-/
import Derived.Test.YtkgkagcppoedeaaWalks
namespace Go.Proofs.Ytkgkagcppoedeaa
open Go.RowKit
set_option linter.unusedVariables false

theorem begins_walk (p f : Int) (w : World) : Calls Try.prog 3 #[.int .i64 p, .int .i64 f] w fun e w' => e = .returned (.bool true) ∧ Below w.heap.size w w' := by
  go_enter Try.func3, Try.ntmps3
  go_wp2_with (first | (go_at_call 10; refine (awake_any _).mono ?_; rintro e w1 ⟨rfl, hb⟩) | (go_at_call 11; refine (begin_any _ _ _).mono ?_; rintro e w' ⟨rfl, rfl⟩) | (go_at_call 12; refine (beginR_any _ _ _).mono ?_; rintro e w' ⟨rfl, rfl⟩))
  go_ret
  exact ⟨by simp [begin_eq], by assumption⟩

theorem nexts_walk (s f : Int) (w : World) : Calls Try.prog 4 #[.int .i64 s, .int .i64 f] w fun e w' => e = .returned (.bool true) ∧ Below w.heap.size w w' := by
  go_enter Try.func4, Try.ntmps4
  go_wp2_with (first | (go_at_call 10; refine (awake_any _).mono ?_; rintro e w1 ⟨rfl, hb⟩) | (go_at_call 13; refine (next_any _ _ _).mono ?_; rintro e w' ⟨rfl, rfl⟩) | (go_at_call 14; refine (nextR_any _ _ _).mono ?_; rintro e w' ⟨rfl, rfl⟩))
  go_ret
  exact ⟨by simp [next_eq], by assumption⟩

theorem bits_walk (s f h : Int) (w : World) : Calls Try.prog 7 #[.int .i64 s, .int .i64 f, .int .i64 h] w fun e w' => e = .returned (.bool true) ∧ Below w.heap.size w w' := by
  have H : Hid _ := Lib.hid (other_mod f h)
  go_enter Try.func7, Try.ntmps7
  go_wp2_with (go_at_call 10; refine (awake_any _).mono ?_; rintro e w1 ⟨rfl, hb⟩)
  generalize hg : bits BinOp.or IntKind.i64 (bits BinOp.and IntKind.i64 f 63) (bits BinOp.andNot IntKind.i64 h 63) = g at *
  have e1 : (nextS s f == nextS s g) = true := by rw [next_mod s f g (by rw [H.out])]; simp
  have e2 : (beginS 6 f == beginS 6 g) = true := by rw [begin_mod 6 f g (by rw [H.out])]; simp
  clear hg H
  go_wp2_with (first | (go_at_call 13; refine (next_any _ _ _).mono ?_; rintro e w' ⟨rfl, rfl⟩) | (go_at_call 11; refine (begin_any _ _ _).mono ?_; rintro e w' ⟨rfl, rfl⟩))
  go_ret
  exact ⟨rfl, by assumption⟩

end Go.Proofs.Ytkgkagcppoedeaa
