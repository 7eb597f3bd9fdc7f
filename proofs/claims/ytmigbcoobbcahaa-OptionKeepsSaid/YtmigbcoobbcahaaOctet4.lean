/-
  The contracts of the document's functions on bytes, continued: Turn, Padded, Same; what the anchor asks.
-/
import Derived.Test.YtmigbcoobbcahaaOctet3
namespace Go.Proofs.Ytmigbcoobbcahaa
open Go.RowKit Go.Sort
set_option linter.unusedVariables false

/-- how long a slice is -/
def lenV : Value → Nat
  | .slice _ n _ => n
  | _ => 0

theorem take_snocR (l : List UInt8) (k : Nat) (h : k < l.length) : l.reverse.take (k + 1) = l.reverse.take k ++ [at8 l (l.length - 1 - k)] := by
  rw [List.take_add_one, List.getElem?_eq_getElem (by simpa using h), at8_get l _ (by omega), List.getElem_reverse]; rfl



end Go.Proofs.Ytmigbcoobbcahaa
