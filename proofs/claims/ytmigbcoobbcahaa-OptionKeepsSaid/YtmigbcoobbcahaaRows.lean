/-
  No cell of these rows narrows 'for every input' (looked for: loops, veiled, ifaces, maps, wideKeys, modest, calm, conditions, laid).
  DERIVED. THE GIVEN ROWS OF THIS SEAT. 6 by the template 'for every input the law returns true; each argument reads behind the call as it read before'; 0 by the template 'total and deterministic' (their statements: YtmigbcoobbcahaaTotals.lean).
  GIVEN WITH THE SEED: the statements are not yours to turn. If you find one false, say at which input.
  Laid BY PROGRAM, IN A SANDBOX (cutbox-rows.mjs): the forced cells as the released guide's own fill.sh prints them over the translation 6e75f8fed4c125c7… (all of the seat's roots in one cut). By AI agents, Wed Nov 11 2026. No macro, syntax, notation, axiom, sorry.
-/
import Derived.Test.YtmigbcoobbcahaaChecked
import GoSem.Claim
import GoSem.ClaimJoined
import GoSem.ClaimMapViews
import Derived.JoinedTies
import Derived.KernelRfl
namespace Go.Proofs.Ytmigbcoobbcahaa
/- THE CELL 'sum', in the pinned program and in every row, IS THE sha256 OF THE DUMP (.gsa) THAT YtmigbcoobbcahaaProg.lean LOADS. Nothing in Lean hashes anything: it is a label: what it is worth is what the hold of that sum in a sandbox is worth. -/
noncomputable def Try.pinned : Pinned := { name := "ytmigbcoobbcahaa", sum := "6e75f8fed4c125c7346b608b7a2d8333cb3522a8997325eb68f139e13bd708d8", checked := Try.checked }
namespace Rows
def none {H : Type} : Left H := { results := [], args := [] }

/-- 'wayleavelaw25.OptionPuts': WHATEVER THE INPUT: true; the input reads as it did. -/
def optionPutsSpec : ChangeSpec := { name := "optionPuts", fn := fun _ => fun
  | [d1, d2] => { results := [.lit (.bool true)], args := [d1, d2] }
  | _ => none }
def optionPutsRow : OpenClaim := { program := "ytmigbcoobbcahaa", sum := "6e75f8fed4c125c7346b608b7a2d8333cb3522a8997325eb68f139e13bd708d8", func := "wayleave/wayleavelaw25.OptionPuts", spec := "optionPuts", unfollowed := true, recurses := true, apart := false }
def OptionPutsSaid : Prop := optionPutsRow.holds Try.pinned (OpenSpec.ofChange optionPutsSpec)

/-- ITS FALSE NEIGHBOUR: 'it returns false'. Refute it at one input. -/
def optionPutsWrong : ChangeSpec := { name := "optionPuts", fn := fun _ => fun
  | [d1, d2] => { results := [.lit (.bool false)], args := [d1, d2] }
  | _ => none }
def OptionPutsWrongFalsely : Prop := optionPutsRow.holds Try.pinned (OpenSpec.ofChange optionPutsWrong)

/-- 'wayleavelaw25.OptionReads': WHATEVER THE INPUT: true; the input reads as it did. -/
def optionReadsSpec : ChangeSpec := { name := "optionReads", fn := fun _ => fun
  | [d1, d2] => { results := [.lit (.bool true)], args := [d1, d2] }
  | _ => none }
def optionReadsRow : OpenClaim := { program := "ytmigbcoobbcahaa", sum := "6e75f8fed4c125c7346b608b7a2d8333cb3522a8997325eb68f139e13bd708d8", func := "wayleave/wayleavelaw25.OptionReads", spec := "optionReads", unfollowed := true, recurses := true, apart := false }
def OptionReadsSaid : Prop := optionReadsRow.holds Try.pinned (OpenSpec.ofChange optionReadsSpec)

/-- ITS FALSE NEIGHBOUR: 'it returns false'. Refute it at one input. -/
def optionReadsWrong : ChangeSpec := { name := "optionReads", fn := fun _ => fun
  | [d1, d2] => { results := [.lit (.bool false)], args := [d1, d2] }
  | _ => none }
def OptionReadsWrongFalsely : Prop := optionReadsRow.holds Try.pinned (OpenSpec.ofChange optionReadsWrong)

/-- 'wayleavelaw25.OptionBack': WHATEVER THE INPUT: true; the input reads as it did. -/
def optionBackSpec : ChangeSpec := { name := "optionBack", fn := fun _ => fun
  | [d1, d2, d3, d4] => { results := [.lit (.bool true)], args := [d1, d2, d3, d4] }
  | _ => none }
def optionBackRow : OpenClaim := { program := "ytmigbcoobbcahaa", sum := "6e75f8fed4c125c7346b608b7a2d8333cb3522a8997325eb68f139e13bd708d8", func := "wayleave/wayleavelaw25.OptionBack", spec := "optionBack", unfollowed := true, recurses := true, apart := false }
def OptionBackSaid : Prop := optionBackRow.holds Try.pinned (OpenSpec.ofChange optionBackSpec)

/-- ITS FALSE NEIGHBOUR: 'it returns false'. Refute it at one input. -/
def optionBackWrong : ChangeSpec := { name := "optionBack", fn := fun _ => fun
  | [d1, d2, d3, d4] => { results := [.lit (.bool false)], args := [d1, d2, d3, d4] }
  | _ => none }
def OptionBackWrongFalsely : Prop := optionBackRow.holds Try.pinned (OpenSpec.ofChange optionBackWrong)

/-- 'wayleavelaw25.OptionCuts': WHATEVER THE INPUT: true; the input reads as it did. -/
def optionCutsSpec : ChangeSpec := { name := "optionCuts", fn := fun _ => fun
  | [d1, d2, d3] => { results := [.lit (.bool true)], args := [d1, d2, d3] }
  | _ => none }
def optionCutsRow : OpenClaim := { program := "ytmigbcoobbcahaa", sum := "6e75f8fed4c125c7346b608b7a2d8333cb3522a8997325eb68f139e13bd708d8", func := "wayleave/wayleavelaw25.OptionCuts", spec := "optionCuts", unfollowed := true, recurses := true, apart := false }
def OptionCutsSaid : Prop := optionCutsRow.holds Try.pinned (OpenSpec.ofChange optionCutsSpec)

/-- ITS FALSE NEIGHBOUR: 'it returns false'. Refute it at one input. -/
def optionCutsWrong : ChangeSpec := { name := "optionCuts", fn := fun _ => fun
  | [d1, d2, d3] => { results := [.lit (.bool false)], args := [d1, d2, d3] }
  | _ => none }
def OptionCutsWrongFalsely : Prop := optionCutsRow.holds Try.pinned (OpenSpec.ofChange optionCutsWrong)

/-- 'wayleavelaw25.OptionFinds': WHATEVER THE INPUT: true; the input reads as it did. -/
def optionFindsSpec : ChangeSpec := { name := "optionFinds", fn := fun _ => fun
  | [d1, d2, d3] => { results := [.lit (.bool true)], args := [d1, d2, d3] }
  | _ => none }
def optionFindsRow : OpenClaim := { program := "ytmigbcoobbcahaa", sum := "6e75f8fed4c125c7346b608b7a2d8333cb3522a8997325eb68f139e13bd708d8", func := "wayleave/wayleavelaw25.OptionFinds", spec := "optionFinds", unfollowed := true, recurses := true, apart := false }
def OptionFindsSaid : Prop := optionFindsRow.holds Try.pinned (OpenSpec.ofChange optionFindsSpec)

/-- ITS FALSE NEIGHBOUR: 'it returns false'. Refute it at one input. -/
def optionFindsWrong : ChangeSpec := { name := "optionFinds", fn := fun _ => fun
  | [d1, d2, d3] => { results := [.lit (.bool false)], args := [d1, d2, d3] }
  | _ => none }
def OptionFindsWrongFalsely : Prop := optionFindsRow.holds Try.pinned (OpenSpec.ofChange optionFindsWrong)

/-- 'wayleavelaw25.OptionKeeps': WHATEVER THE INPUT: true; the input reads as it did. -/
def optionKeepsSpec : ChangeSpec := { name := "optionKeeps", fn := fun _ => fun
  | [d1, d2] => { results := [.lit (.bool true)], args := [d1, d2] }
  | _ => none }
def optionKeepsRow : OpenClaim := { program := "ytmigbcoobbcahaa", sum := "6e75f8fed4c125c7346b608b7a2d8333cb3522a8997325eb68f139e13bd708d8", func := "wayleave/wayleavelaw25.OptionKeeps", spec := "optionKeeps", unfollowed := true, recurses := true, apart := false }
def OptionKeepsSaid : Prop := optionKeepsRow.holds Try.pinned (OpenSpec.ofChange optionKeepsSpec)

/-- ITS FALSE NEIGHBOUR: 'it returns false'. Refute it at one input. -/
def optionKeepsWrong : ChangeSpec := { name := "optionKeeps", fn := fun _ => fun
  | [d1, d2] => { results := [.lit (.bool false)], args := [d1, d2] }
  | _ => none }
def OptionKeepsWrongFalsely : Prop := optionKeepsRow.holds Try.pinned (OpenSpec.ofChange optionKeepsWrong)

/- THE SECOND FORM. 'bulk': how many values and letters a reading holds, each counted each time it is reached (what is shared counts as often as it is met; a slice's spare places count too). A statement '..UptoSaid' is the law's where the arguments, and the package variables that the reading takes, are together of bulk at most 1048576: NARROWER than '..Said'. Prove '..Said' where nothing that the law and all that it calls make is longer than what came in: it says more and counts as full. Else prove '..UptoSaid'. A law counts once. -/
mutual
def uptoBulk {H : Type} : DataW H → Nat
  | .lit (.string bytes) => bytes.length + 1
  | .lit _ => 1
  | .nil => 1
  | .ptr d => uptoBulk d + 1
  | .slice elems spare => uptoBulkAll elems + uptoBulkAll spare + 1
  | .agg parts => uptoBulkAll parts + 1
  | .iface _ d => uptoBulk d + 1
  | .map entries => uptoBulkEntries entries + 1
  | .held _ => 1
def uptoBulkAll {H : Type} : List (DataW H) → Nat
  | [] => 0
  | d :: r => uptoBulk d + uptoBulkAll r
def uptoBulkEntries {H : Type} : List (Lit × DataW H) → Nat
  | [] => 0
  | x :: r => uptoBulkEntry x + uptoBulkEntries r
def uptoBulkEntry {H : Type} : Lit × DataW H → Nat
  | (.string bytes, d) => bytes.length + uptoBulk d + 1
  | (_, d) => uptoBulk d + 1
 end
def uptoSmall : (H : Type) → List (DataW H) → Bool := fun _ ds => decide (uptoBulkAll ds ≤ 1048576)
def OpenSpec.upto (s : _root_.Go.ChangeSpec) : _root_.Go.OpenSpec := { _root_.Go.OpenSpec.ofChange s with cond := some uptoSmall }

/-- 'wayleavelaw25.OptionPuts', WHERE WHAT IT READS IS OF BULK AT MOST 1048576: true; the input reads as it did. -/
def optionPutsUptoRow : OpenClaim := { program := "ytmigbcoobbcahaa", sum := "6e75f8fed4c125c7346b608b7a2d8333cb3522a8997325eb68f139e13bd708d8", func := "wayleave/wayleavelaw25.OptionPuts", spec := "optionPuts", unfollowed := true, recurses := true, apart := false, narrowed := true }
def OptionPutsUptoSaid : Prop := optionPutsUptoRow.holds Try.pinned (OpenSpec.upto optionPutsSpec)

/-- 'wayleavelaw25.OptionReads', WHERE WHAT IT READS IS OF BULK AT MOST 1048576: true; the input reads as it did. -/
def optionReadsUptoRow : OpenClaim := { program := "ytmigbcoobbcahaa", sum := "6e75f8fed4c125c7346b608b7a2d8333cb3522a8997325eb68f139e13bd708d8", func := "wayleave/wayleavelaw25.OptionReads", spec := "optionReads", unfollowed := true, recurses := true, apart := false, narrowed := true }
def OptionReadsUptoSaid : Prop := optionReadsUptoRow.holds Try.pinned (OpenSpec.upto optionReadsSpec)

/-- 'wayleavelaw25.OptionBack', WHERE WHAT IT READS IS OF BULK AT MOST 1048576: true; the input reads as it did. -/
def optionBackUptoRow : OpenClaim := { program := "ytmigbcoobbcahaa", sum := "6e75f8fed4c125c7346b608b7a2d8333cb3522a8997325eb68f139e13bd708d8", func := "wayleave/wayleavelaw25.OptionBack", spec := "optionBack", unfollowed := true, recurses := true, apart := false, narrowed := true }
def OptionBackUptoSaid : Prop := optionBackUptoRow.holds Try.pinned (OpenSpec.upto optionBackSpec)

/-- 'wayleavelaw25.OptionCuts', WHERE WHAT IT READS IS OF BULK AT MOST 1048576: true; the input reads as it did. -/
def optionCutsUptoRow : OpenClaim := { program := "ytmigbcoobbcahaa", sum := "6e75f8fed4c125c7346b608b7a2d8333cb3522a8997325eb68f139e13bd708d8", func := "wayleave/wayleavelaw25.OptionCuts", spec := "optionCuts", unfollowed := true, recurses := true, apart := false, narrowed := true }
def OptionCutsUptoSaid : Prop := optionCutsUptoRow.holds Try.pinned (OpenSpec.upto optionCutsSpec)

/-- 'wayleavelaw25.OptionFinds', WHERE WHAT IT READS IS OF BULK AT MOST 1048576: true; the input reads as it did. -/
def optionFindsUptoRow : OpenClaim := { program := "ytmigbcoobbcahaa", sum := "6e75f8fed4c125c7346b608b7a2d8333cb3522a8997325eb68f139e13bd708d8", func := "wayleave/wayleavelaw25.OptionFinds", spec := "optionFinds", unfollowed := true, recurses := true, apart := false, narrowed := true }
def OptionFindsUptoSaid : Prop := optionFindsUptoRow.holds Try.pinned (OpenSpec.upto optionFindsSpec)

/-- 'wayleavelaw25.OptionKeeps', WHERE WHAT IT READS IS OF BULK AT MOST 1048576: true; the input reads as it did. -/
def optionKeepsUptoRow : OpenClaim := { program := "ytmigbcoobbcahaa", sum := "6e75f8fed4c125c7346b608b7a2d8333cb3522a8997325eb68f139e13bd708d8", func := "wayleave/wayleavelaw25.OptionKeeps", spec := "optionKeeps", unfollowed := true, recurses := true, apart := false, narrowed := true }
def OptionKeepsUptoSaid : Prop := optionKeepsUptoRow.holds Try.pinned (OpenSpec.upto optionKeepsSpec)

end Rows
end Go.Proofs.Ytmigbcoobbcahaa
