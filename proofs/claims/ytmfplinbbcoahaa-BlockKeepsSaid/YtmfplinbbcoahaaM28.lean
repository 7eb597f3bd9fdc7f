/-
  Joined by program (merge.py): LawKitG.
-/
import Derived.Test.YtmfplinbbcoahaaM18
import Derived.Test.YtmfplinbbcoahaaM27
/-
  Chapter 26: the document's Get, of whatever length.
-/
namespace Go.Proofs.Ytmfplinbbcoahaa
open Go.RowKit Go.Sort
set_option linter.unusedVariables false

theorem refGetB_any (ad : Option Addr) (n c : Nat) (l : List UInt8) (big : Bool) (w : World) (hs : Bs w ad n c l) (hn : n ≤ 1000000000) :
    Calls Try.prog 27 #[.slice ad n c, .bool big] w (GetR (getP big l) w) := by
  by_cases h : n < 12
  · exact refGet_short ad n c l big w hs hn h
  · exact refGet_long ad n c l big w hs hn (by omega)
theorem refGetB_at (X : PB) (N : Nat) (E : Int) (ad : Option Addr) (n c : Nat) (l : List UInt8) (big : Bool) (hX : getP big l = (X, N, E)) (w : World) (hs : Bs w ad n c l) (hn : n ≤ 1000000000) :
    Calls Try.prog 27 #[.slice ad n c, .bool big] w fun e w' => ∃ v, e = .returned (.tuple #[.agg v.cells.toArray, .int .i64 (N : Int), .int .i64 E]) ∧ v.val = X ∧ OwnBlk w.heap.size w' v ∧ Below w.heap.size w w' := by
  have := refGetB_any ad n c l big w hs hn
  rw [hX] at this
  exact this
end Go.Proofs.Ytmfplinbbcoahaa
