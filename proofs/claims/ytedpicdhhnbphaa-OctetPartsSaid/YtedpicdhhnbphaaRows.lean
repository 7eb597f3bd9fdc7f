/-
  No cell of these rows narrows 'for every input' (looked for: loops, veiled, ifaces, maps, wideKeys, modest, calm, conditions, laid).
  DERIVED. THE GIVEN ROWS OF THIS SEAT. 6 by the template 'for every input the law returns true; each argument reads behind the call as it read before'; 0 by the template 'total and deterministic' (their statements: YtedpicdhhnbphaaTotals.lean).
  GIVEN WITH THE SEED: the statements are not yours to turn. If you find one false, say at which input.
  Laid BY PROGRAM, IN A SANDBOX (cutbox-rows.mjs): the forced cells as the released guide's own fill.sh prints them over the translation ee3da4975562884e… (all of the seat's roots in one cut). By AI agents, Wed Nov 11 2026. No macro, syntax, notation, axiom, sorry.
-/
import Derived.Test.YtedpicdhhnbphaaChecked
import GoSem.Claim
import GoSem.ClaimJoined
import GoSem.ClaimMapViews
import Derived.JoinedTies
import Derived.KernelRfl
namespace Go.Proofs.Ytedpicdhhnbphaa
/- THE CELL 'sum', in the pinned program and in every row, IS THE sha256 OF THE DUMP (.gsa) THAT YtedpicdhhnbphaaProg.lean LOADS. Nothing in Lean hashes anything: it is a label: what it is worth is what the hold of that sum in a sandbox is worth. -/
noncomputable def Try.pinned : Pinned := { name := "ytedpicdhhnbphaa", sum := "ee3da4975562884e24b9eb28f1229629986292915540108541cb704fa9d42643", checked := Try.checked }
namespace Rows
def none {H : Type} : Left H := { results := [], args := [] }

/-- 'wayleavelaw01.OctetPuts': WHATEVER THE INPUT: true; the input reads as it did. -/
def octetPutsSpec : ChangeSpec := { name := "octetPuts", fn := fun _ => fun
  | [d1, d2, d3, d4] => { results := [.lit (.bool true)], args := [d1, d2, d3, d4] }
  | _ => none }
def octetPutsRow : OpenClaim := { program := "ytedpicdhhnbphaa", sum := "ee3da4975562884e24b9eb28f1229629986292915540108541cb704fa9d42643", func := "wayleave/wayleavelaw01.OctetPuts", spec := "octetPuts", unfollowed := true, recurses := true, apart := false }
def OctetPutsSaid : Prop := octetPutsRow.holds Try.pinned (OpenSpec.ofChange octetPutsSpec)

/-- ITS FALSE NEIGHBOUR: 'it returns false'. Refute it at one input. -/
def octetPutsWrong : ChangeSpec := { name := "octetPuts", fn := fun _ => fun
  | [d1, d2, d3, d4] => { results := [.lit (.bool false)], args := [d1, d2, d3, d4] }
  | _ => none }
def OctetPutsWrongFalsely : Prop := octetPutsRow.holds Try.pinned (OpenSpec.ofChange octetPutsWrong)

/-- 'wayleavelaw01.OctetBack': WHATEVER THE INPUT: true; the input reads as it did. -/
def octetBackSpec : ChangeSpec := { name := "octetBack", fn := fun _ => fun
  | [d1, d2, d3, d4] => { results := [.lit (.bool true)], args := [d1, d2, d3, d4] }
  | _ => none }
def octetBackRow : OpenClaim := { program := "ytedpicdhhnbphaa", sum := "ee3da4975562884e24b9eb28f1229629986292915540108541cb704fa9d42643", func := "wayleave/wayleavelaw01.OctetBack", spec := "octetBack", unfollowed := true, recurses := true, apart := false }
def OctetBackSaid : Prop := octetBackRow.holds Try.pinned (OpenSpec.ofChange octetBackSpec)

/-- ITS FALSE NEIGHBOUR: 'it returns false'. Refute it at one input. -/
def octetBackWrong : ChangeSpec := { name := "octetBack", fn := fun _ => fun
  | [d1, d2, d3, d4] => { results := [.lit (.bool false)], args := [d1, d2, d3, d4] }
  | _ => none }
def OctetBackWrongFalsely : Prop := octetBackRow.holds Try.pinned (OpenSpec.ofChange octetBackWrong)

/-- 'wayleavelaw01.OctetTurned': WHATEVER THE INPUT: true; the input reads as it did. -/
def octetTurnedSpec : ChangeSpec := { name := "octetTurned", fn := fun _ => fun
  | [d1, d2, d3] => { results := [.lit (.bool true)], args := [d1, d2, d3] }
  | _ => none }
def octetTurnedRow : OpenClaim := { program := "ytedpicdhhnbphaa", sum := "ee3da4975562884e24b9eb28f1229629986292915540108541cb704fa9d42643", func := "wayleave/wayleavelaw01.OctetTurned", spec := "octetTurned", unfollowed := true, recurses := true, apart := false }
def OctetTurnedSaid : Prop := octetTurnedRow.holds Try.pinned (OpenSpec.ofChange octetTurnedSpec)

/-- ITS FALSE NEIGHBOUR: 'it returns false'. Refute it at one input. -/
def octetTurnedWrong : ChangeSpec := { name := "octetTurned", fn := fun _ => fun
  | [d1, d2, d3] => { results := [.lit (.bool false)], args := [d1, d2, d3] }
  | _ => none }
def OctetTurnedWrongFalsely : Prop := octetTurnedRow.holds Try.pinned (OpenSpec.ofChange octetTurnedWrong)

/-- 'wayleavelaw01.OctetParts': WHATEVER THE INPUT: true; the input reads as it did. -/
def octetPartsSpec : ChangeSpec := { name := "octetParts", fn := fun _ => fun
  | [d1, d2, d3, d4] => { results := [.lit (.bool true)], args := [d1, d2, d3, d4] }
  | _ => none }
def octetPartsRow : OpenClaim := { program := "ytedpicdhhnbphaa", sum := "ee3da4975562884e24b9eb28f1229629986292915540108541cb704fa9d42643", func := "wayleave/wayleavelaw01.OctetParts", spec := "octetParts", unfollowed := true, recurses := true, apart := false }
def OctetPartsSaid : Prop := octetPartsRow.holds Try.pinned (OpenSpec.ofChange octetPartsSpec)

/-- ITS FALSE NEIGHBOUR: 'it returns false'. Refute it at one input. -/
def octetPartsWrong : ChangeSpec := { name := "octetParts", fn := fun _ => fun
  | [d1, d2, d3, d4] => { results := [.lit (.bool false)], args := [d1, d2, d3, d4] }
  | _ => none }
def OctetPartsWrongFalsely : Prop := octetPartsRow.holds Try.pinned (OpenSpec.ofChange octetPartsWrong)

/-- 'wayleavelaw01.OctetPads': WHATEVER THE INPUT: true; the input reads as it did. -/
def octetPadsSpec : ChangeSpec := { name := "octetPads", fn := fun _ => fun
  | [d1, d2] => { results := [.lit (.bool true)], args := [d1, d2] }
  | _ => none }
def octetPadsRow : OpenClaim := { program := "ytedpicdhhnbphaa", sum := "ee3da4975562884e24b9eb28f1229629986292915540108541cb704fa9d42643", func := "wayleave/wayleavelaw01.OctetPads", spec := "octetPads", unfollowed := true, recurses := true, apart := false }
def OctetPadsSaid : Prop := octetPadsRow.holds Try.pinned (OpenSpec.ofChange octetPadsSpec)

/-- ITS FALSE NEIGHBOUR: 'it returns false'. Refute it at one input. -/
def octetPadsWrong : ChangeSpec := { name := "octetPads", fn := fun _ => fun
  | [d1, d2] => { results := [.lit (.bool false)], args := [d1, d2] }
  | _ => none }
def OctetPadsWrongFalsely : Prop := octetPadsRow.holds Try.pinned (OpenSpec.ofChange octetPadsWrong)

/-- 'wayleavelaw01.OctetKeeps': WHATEVER THE INPUT: true; the input reads as it did. -/
def octetKeepsSpec : ChangeSpec := { name := "octetKeeps", fn := fun _ => fun
  | [d] => { results := [.lit (.bool true)], args := [d] }
  | _ => none }
def octetKeepsRow : OpenClaim := { program := "ytedpicdhhnbphaa", sum := "ee3da4975562884e24b9eb28f1229629986292915540108541cb704fa9d42643", func := "wayleave/wayleavelaw01.OctetKeeps", spec := "octetKeeps", unfollowed := true, recurses := true, apart := false }
def OctetKeepsSaid : Prop := octetKeepsRow.holds Try.pinned (OpenSpec.ofChange octetKeepsSpec)

/-- ITS FALSE NEIGHBOUR: 'it returns false'. Refute it at one input. -/
def octetKeepsWrong : ChangeSpec := { name := "octetKeeps", fn := fun _ => fun
  | [d] => { results := [.lit (.bool false)], args := [d] }
  | _ => none }
def OctetKeepsWrongFalsely : Prop := octetKeepsRow.holds Try.pinned (OpenSpec.ofChange octetKeepsWrong)

/- THE SECOND FORM. 'bulk': how many values and letters a reading holds, each counted each time it is reached (what is shared counts as often as it is met; a slice's spare places count too). A statement '..UptoSaid' is the law's where the arguments, and the package variables that the reading takes, are together of bulk at most 1048576: NARROWER than '..Said'. Prove '..Said' where nothing that the law and all that it calls make is longer than what came in: it says more and counts as full. Else prove '..UptoSaid'. A law counts once. -/
mutual
def uptoBulk {H : Type} : DataW H → Nat
  | .lit (.string bytes) => bytes.length + 1
  | .lit _ => 1
  | .nil => 1
  | .ptr d => uptoBulk d + 1
  | .slice elems spare => uptoBulkAll elems + uptoBulkAll spare + 1
  | .agg parts => uptoBulkAll parts + 1
  | .iface _ d => uptoBulk d + 1
  | .map entries => uptoBulkEntries entries + 1
  | .held _ => 1
def uptoBulkAll {H : Type} : List (DataW H) → Nat
  | [] => 0
  | d :: r => uptoBulk d + uptoBulkAll r
def uptoBulkEntries {H : Type} : List (Lit × DataW H) → Nat
  | [] => 0
  | x :: r => uptoBulkEntry x + uptoBulkEntries r
def uptoBulkEntry {H : Type} : Lit × DataW H → Nat
  | (.string bytes, d) => bytes.length + uptoBulk d + 1
  | (_, d) => uptoBulk d + 1
 end
def uptoSmall : (H : Type) → List (DataW H) → Bool := fun _ ds => decide (uptoBulkAll ds ≤ 1048576)
def OpenSpec.upto (s : _root_.Go.ChangeSpec) : _root_.Go.OpenSpec := { _root_.Go.OpenSpec.ofChange s with cond := some uptoSmall }

/-- 'wayleavelaw01.OctetPuts', WHERE WHAT IT READS IS OF BULK AT MOST 1048576: true; the input reads as it did. -/
def octetPutsUptoRow : OpenClaim := { program := "ytedpicdhhnbphaa", sum := "ee3da4975562884e24b9eb28f1229629986292915540108541cb704fa9d42643", func := "wayleave/wayleavelaw01.OctetPuts", spec := "octetPuts", unfollowed := true, recurses := true, apart := false, narrowed := true }
def OctetPutsUptoSaid : Prop := octetPutsUptoRow.holds Try.pinned (OpenSpec.upto octetPutsSpec)

/-- 'wayleavelaw01.OctetBack', WHERE WHAT IT READS IS OF BULK AT MOST 1048576: true; the input reads as it did. -/
def octetBackUptoRow : OpenClaim := { program := "ytedpicdhhnbphaa", sum := "ee3da4975562884e24b9eb28f1229629986292915540108541cb704fa9d42643", func := "wayleave/wayleavelaw01.OctetBack", spec := "octetBack", unfollowed := true, recurses := true, apart := false, narrowed := true }
def OctetBackUptoSaid : Prop := octetBackUptoRow.holds Try.pinned (OpenSpec.upto octetBackSpec)

/-- 'wayleavelaw01.OctetTurned', WHERE WHAT IT READS IS OF BULK AT MOST 1048576: true; the input reads as it did. -/
def octetTurnedUptoRow : OpenClaim := { program := "ytedpicdhhnbphaa", sum := "ee3da4975562884e24b9eb28f1229629986292915540108541cb704fa9d42643", func := "wayleave/wayleavelaw01.OctetTurned", spec := "octetTurned", unfollowed := true, recurses := true, apart := false, narrowed := true }
def OctetTurnedUptoSaid : Prop := octetTurnedUptoRow.holds Try.pinned (OpenSpec.upto octetTurnedSpec)

/-- 'wayleavelaw01.OctetParts', WHERE WHAT IT READS IS OF BULK AT MOST 1048576: true; the input reads as it did. -/
def octetPartsUptoRow : OpenClaim := { program := "ytedpicdhhnbphaa", sum := "ee3da4975562884e24b9eb28f1229629986292915540108541cb704fa9d42643", func := "wayleave/wayleavelaw01.OctetParts", spec := "octetParts", unfollowed := true, recurses := true, apart := false, narrowed := true }
def OctetPartsUptoSaid : Prop := octetPartsUptoRow.holds Try.pinned (OpenSpec.upto octetPartsSpec)

/-- 'wayleavelaw01.OctetPads', WHERE WHAT IT READS IS OF BULK AT MOST 1048576: true; the input reads as it did. -/
def octetPadsUptoRow : OpenClaim := { program := "ytedpicdhhnbphaa", sum := "ee3da4975562884e24b9eb28f1229629986292915540108541cb704fa9d42643", func := "wayleave/wayleavelaw01.OctetPads", spec := "octetPads", unfollowed := true, recurses := true, apart := false, narrowed := true }
def OctetPadsUptoSaid : Prop := octetPadsUptoRow.holds Try.pinned (OpenSpec.upto octetPadsSpec)

/-- 'wayleavelaw01.OctetKeeps', WHERE WHAT IT READS IS OF BULK AT MOST 1048576: true; the input reads as it did. -/
def octetKeepsUptoRow : OpenClaim := { program := "ytedpicdhhnbphaa", sum := "ee3da4975562884e24b9eb28f1229629986292915540108541cb704fa9d42643", func := "wayleave/wayleavelaw01.OctetKeeps", spec := "octetKeeps", unfollowed := true, recurses := true, apart := false, narrowed := true }
def OctetKeepsUptoSaid : Prop := octetKeepsUptoRow.holds Try.pinned (OpenSpec.upto octetKeepsSpec)

end Rows
end Go.Proofs.Ytedpicdhhnbphaa
