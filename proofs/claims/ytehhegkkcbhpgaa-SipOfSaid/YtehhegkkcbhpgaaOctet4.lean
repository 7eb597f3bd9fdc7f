/-
  The contracts of the document's functions on bytes, continued: Turn, Padded, Same; what the anchor asks.
-/
import Derived.Test.YtehhegkkcbhpgaaOctet3
namespace Go.Proofs.Ytehhegkkcbhpgaa
open Go.RowKit Go.Sort
set_option linter.unusedVariables false

/-- how long a slice is -/
def lenV : Value → Nat
  | .slice _ n _ => n
  | _ => 0

theorem take_snocR (l : List UInt8) (k : Nat) (h : k < l.length) : l.reverse.take (k + 1) = l.reverse.take k ++ [at8 l (l.length - 1 - k)] := by
  rw [List.take_add_one, List.getElem?_eq_getElem (by simpa using h), at8_get l _ (by omega), List.getElem_reverse]; rfl



theorem same_any (ad : Option Addr) (n c : Nat) (l : List UInt8) (ad' : Option Addr) (n' c' : Nat) (m : List UInt8) (w : World) (hs : Bs w ad n c l) (hs' : Bs w ad' n' c' m) :
    Calls Try.prog 13 #[.slice ad n c, .slice ad' n' c'] w fun e w' => e = .returned (.bool (sameB l m)) ∧ w = w' := by
  have HS := Lib.hid hs
  have HS' := Lib.hid hs'
  clear hs hs'
  go_enter Try.func13, Try.ntmps13
  go_wp2_with (first
    | ((with_reducible show wpList _ _ _ (⟨some 6, _, _, _, _, _⟩ :: _) _ _); go_must (refine wpL_str elB.1 (by kernel_rfl) (by kernel_rfl) rfl (.tmp 5) rfl rfl HS.out ?_))
    | ((with_reducible show wpList _ _ _ (⟨some 8, _, _, _, _, _⟩ :: _) _ _); go_must (refine wpL_str elB.1 (by kernel_rfl) (by kernel_rfl) rfl (.tmp 7) rfl rfl HS'.out ?_)))
  rw [sameB_str]
  go_ret
  exact ⟨rfl, rfl⟩

end Go.Proofs.Ytehhegkkcbhpgaa
