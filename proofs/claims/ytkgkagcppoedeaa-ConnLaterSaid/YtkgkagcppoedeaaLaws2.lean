/-
  The walks of the statements on what is stale.
-/
import Derived.Test.YtkgkagcppoedeaaWalks
import Derived.Lib.QuietBelow
namespace Go.Proofs.Ytkgkagcppoedeaa
open Go.RowKit Go.Sort
set_option linter.unusedVariables false

abbrev idleObj (i0 i1 i2 i3 i4 i5 : Int) : Obj := .cells #[.int .i64 i0, .int .i64 i1, .int .i64 i2, .int .i64 i3, .int .i64 i4, .int .i64 i5] 30
theorem below_of_box {w : World} {o : Obj} (d : Nat) (os : Array Obj) : Below w.heap.size w (grow (redrawn (w.alloc o) d) os) :=
  (((Below.refl w.heap.size w).alloc (Nat.le_refl _) o)).trans ((below_regrown (w.alloc o) d os).mono (by simp))

set_option maxHeartbeats 400000 in
theorem stales_walk (s seen now i0 i1 i2 i3 i4 i5 : Int) (w : World) : Calls Try.prog 8 #[.int .i64 s, .int .i64 seen, .int .i64 now, .agg #[.int .i64 i0, .int .i64 i1, .int .i64 i2, .int .i64 i3, .int .i64 i4, .int .i64 i5]] w fun e w' =>
    e = .returned (.bool true) ∧ Below w.heap.size w w' := by
  have hbel := fun d os => below_of_box (w := w) (o := idleObj i0 i1 i2 i3 i4 i5) d os
  have c0 : (w.alloc (idleObj i0 i1 i2 i3 i4 i5)).cell? ⟨w.heap.size, 0, none⟩ = some (.int .i64 i0) := World.cell?_alloc_at _ _ _ _ rfl
  have c1 : (w.alloc (idleObj i0 i1 i2 i3 i4 i5)).cell? ⟨w.heap.size, 1, none⟩ = some (.int .i64 i1) := World.cell?_alloc_at _ _ _ _ rfl
  have c2 : (w.alloc (idleObj i0 i1 i2 i3 i4 i5)).cell? ⟨w.heap.size, 2, none⟩ = some (.int .i64 i2) := World.cell?_alloc_at _ _ _ _ rfl
  have c3 : (w.alloc (idleObj i0 i1 i2 i3 i4 i5)).cell? ⟨w.heap.size, 3, none⟩ = some (.int .i64 i3) := World.cell?_alloc_at _ _ _ _ rfl
  have c4 : (w.alloc (idleObj i0 i1 i2 i3 i4 i5)).cell? ⟨w.heap.size, 4, none⟩ = some (.int .i64 i4) := World.cell?_alloc_at _ _ _ _ rfl
  have c5 : (w.alloc (idleObj i0 i1 i2 i3 i4 i5)).cell? ⟨w.heap.size, 5, none⟩ = some (.int .i64 i5) := World.cell?_alloc_at _ _ _ _ rfl
  go_enter Try.func8, Try.ntmps8
  go_wp2_with fail
  generalize w.alloc (.cells #[.int .i64 i0, .int .i64 i1, .int .i64 i2, .int .i64 i3, .int .i64 i4, .int .i64 i5] 30) = W at *
  have k0 := cell_regrown c0
  have k1 := cell_regrown c1
  have k2 := cell_regrown c2
  have k3 := cell_regrown c3
  have k4 := cell_regrown c4
  have k5 := cell_regrown c5
  clear c0 c1 c2 c3 c4 c5
  have HB := Lib.hid hbel
  clear hbel
  refine wp_region_quiet_below (by kernel_rfl) (by kernel_rfl) ?_
  repeat (go_big_quiet_step (first | exact Calls.regrown_of (awake_any _) | exact Calls.regrown_of (stale_any _ _ _ _ _ _ _ _ _ _) | exact Calls.regrown_of (staleR_any _ _ _ _ _ _ _ _ _ _)))
  refine wpQuiet_nil ?_
  intro _ hw'
  obtain ⟨⟨dq, osq⟩, hw''⟩ := hw'
  subst hw''
  go_wp2
  go_ret
  exact ⟨by simp, HB.out _ _⟩
end Go.Proofs.Ytkgkagcppoedeaa
