/-
  The contracts of the other functions on numbers as bytes, and of the document's.
-/
import Derived.Test.YtndmpphkgcjnkaaGet
namespace Go.Proofs.Ytndmpphkgcjnkaa
open Go.RowKit Go.Sort
set_option linter.unusedVariables false

theorem get_any (ad : Option Addr) (n c : Nat) (l : List UInt8) (big : Bool) (w : World) (hs : Bs w ad n c l) :
    Calls Try.prog 23 #[.slice ad n c, .bool big] w (RetN (.int .u64 (getN l big)) w) := by
  cases big
  · exact get_small ad n c l w hs
  · exact get_big ad n c l w hs





end Go.Proofs.Ytndmpphkgcjnkaa
