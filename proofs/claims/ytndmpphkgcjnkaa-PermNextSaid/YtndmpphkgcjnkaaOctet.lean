/-
  The contracts of the functions on numbers as bytes.
-/
import Derived.Test.YtndmpphkgcjnkaaBytes
import Derived.Test.YtndmpphkgcjnkaaProg
import Derived.RegionTactic
import Derived.BigRegion
namespace Go.Proofs.Ytndmpphkgcjnkaa
open Go.RowKit Go.Sort
set_option linter.unusedVariables false

theorem elB : Elem Try.prog 42 5 1 1 (.int .u8 0) := ⟨Try.underlying42, by kernel_rfl, rfl, by omega⟩

end Go.Proofs.Ytndmpphkgcjnkaa
