/-
  No cell of these rows narrows 'for every input' (looked for: loops, veiled, ifaces, maps, wideKeys, modest, calm, conditions, laid).
  DERIVED. THE GIVEN ROWS OF THIS SEAT. 14 by the template 'for every input the law returns true; each argument reads behind the call as it read before'; 0 by the template 'total and deterministic' (their statements: YtmfplinbbcoahaaTotals.lean).
  GIVEN WITH THE SEED: the statements are not yours to turn. If you find one false, say at which input.
  Laid BY PROGRAM, IN A SANDBOX (cutbox-rows.mjs): the forced cells as the released guide's own fill.sh prints them over the translation 8f4cb2992a1f2a8a… (all of the seat's roots in one cut). By AI agents, Wed Nov 11 2026. No macro, syntax, notation, axiom, sorry.
-/
import Derived.Test.YtmfplinbbcoahaaChecked
import GoSem.Claim
import GoSem.ClaimJoined
import GoSem.ClaimMapViews
import Derived.JoinedTies
import Derived.KernelRfl
namespace Go.Proofs.Ytmfplinbbcoahaa
/- THE CELL 'sum', in the pinned program and in every row, IS THE sha256 OF THE DUMP (.gsa) THAT YtmfplinbbcoahaaProg.lean LOADS. Nothing in Lean hashes anything: it is a label: what it is worth is what the hold of that sum in a sandbox is worth. -/
noncomputable def Try.pinned : Pinned := { name := "ytmfplinbbcoahaa", sum := "8f4cb2992a1f2a8a05fe237b352285a94cae1e20bed442bb8d94d0cfcf3a5f3f", checked := Try.checked }
namespace Rows
def none {H : Type} : Left H := { results := [], args := [] }

/-- 'wayleavelaw26.BlockRights': WHATEVER THE INPUT: true; the input reads as it did. -/
def blockRightsSpec : ChangeSpec := { name := "blockRights", fn := fun _ => fun
  | [d1, d2] => { results := [.lit (.bool true)], args := [d1, d2] }
  | _ => none }
def blockRightsRow : OpenClaim := { program := "ytmfplinbbcoahaa", sum := "8f4cb2992a1f2a8a05fe237b352285a94cae1e20bed442bb8d94d0cfcf3a5f3f", func := "wayleave/wayleavelaw26.BlockRights", spec := "blockRights", inPlace := ["internal/bytealg.MakeNoZero"], unfollowed := true, recurses := true, apart := false }
def BlockRightsSaid : Prop := blockRightsRow.holds Try.pinned (OpenSpec.ofChange blockRightsSpec)

/-- ITS FALSE NEIGHBOUR: 'it returns false'. Refute it at one input. -/
def blockRightsWrong : ChangeSpec := { name := "blockRights", fn := fun _ => fun
  | [d1, d2] => { results := [.lit (.bool false)], args := [d1, d2] }
  | _ => none }
def BlockRightsWrongFalsely : Prop := blockRightsRow.holds Try.pinned (OpenSpec.ofChange blockRightsWrong)

/-- 'wayleavelaw26.BlockPuts': WHATEVER THE INPUT: true; the input reads as it did. -/
def blockPutsSpec : ChangeSpec := { name := "blockPuts", fn := fun _ => fun
  | [d1, d2] => { results := [.lit (.bool true)], args := [d1, d2] }
  | _ => none }
def blockPutsRow : OpenClaim := { program := "ytmfplinbbcoahaa", sum := "8f4cb2992a1f2a8a05fe237b352285a94cae1e20bed442bb8d94d0cfcf3a5f3f", func := "wayleave/wayleavelaw26.BlockPuts", spec := "blockPuts", inPlace := ["internal/bytealg.MakeNoZero"], unfollowed := true, recurses := true, apart := false }
def BlockPutsSaid : Prop := blockPutsRow.holds Try.pinned (OpenSpec.ofChange blockPutsSpec)

/-- ITS FALSE NEIGHBOUR: 'it returns false'. Refute it at one input. -/
def blockPutsWrong : ChangeSpec := { name := "blockPuts", fn := fun _ => fun
  | [d1, d2] => { results := [.lit (.bool false)], args := [d1, d2] }
  | _ => none }
def BlockPutsWrongFalsely : Prop := blockPutsRow.holds Try.pinned (OpenSpec.ofChange blockPutsWrong)

/-- 'wayleavelaw26.BlockGets': WHATEVER THE INPUT: true; the input reads as it did. -/
def blockGetsSpec : ChangeSpec := { name := "blockGets", fn := fun _ => fun
  | [d1, d2] => { results := [.lit (.bool true)], args := [d1, d2] }
  | _ => none }
def blockGetsRow : OpenClaim := { program := "ytmfplinbbcoahaa", sum := "8f4cb2992a1f2a8a05fe237b352285a94cae1e20bed442bb8d94d0cfcf3a5f3f", func := "wayleave/wayleavelaw26.BlockGets", spec := "blockGets", inPlace := ["internal/bytealg.MakeNoZero"], unfollowed := true, recurses := true, apart := false }
def BlockGetsSaid : Prop := blockGetsRow.holds Try.pinned (OpenSpec.ofChange blockGetsSpec)

/-- ITS FALSE NEIGHBOUR: 'it returns false'. Refute it at one input. -/
def blockGetsWrong : ChangeSpec := { name := "blockGets", fn := fun _ => fun
  | [d1, d2] => { results := [.lit (.bool false)], args := [d1, d2] }
  | _ => none }
def BlockGetsWrongFalsely : Prop := blockGetsRow.holds Try.pinned (OpenSpec.ofChange blockGetsWrong)

/-- 'wayleavelaw26.BlockBack': WHATEVER THE INPUT: true; the input reads as it did. -/
def blockBackSpec : ChangeSpec := { name := "blockBack", fn := fun _ => fun
  | [d1, d2, d3] => { results := [.lit (.bool true)], args := [d1, d2, d3] }
  | _ => none }
def blockBackRow : OpenClaim := { program := "ytmfplinbbcoahaa", sum := "8f4cb2992a1f2a8a05fe237b352285a94cae1e20bed442bb8d94d0cfcf3a5f3f", func := "wayleave/wayleavelaw26.BlockBack", spec := "blockBack", inPlace := ["internal/bytealg.MakeNoZero"], unfollowed := true, recurses := true, apart := false }
def BlockBackSaid : Prop := blockBackRow.holds Try.pinned (OpenSpec.ofChange blockBackSpec)

/-- ITS FALSE NEIGHBOUR: 'it returns false'. Refute it at one input. -/
def blockBackWrong : ChangeSpec := { name := "blockBack", fn := fun _ => fun
  | [d1, d2, d3] => { results := [.lit (.bool false)], args := [d1, d2, d3] }
  | _ => none }
def BlockBackWrongFalsely : Prop := blockBackRow.holds Try.pinned (OpenSpec.ofChange blockBackWrong)

/-- 'wayleavelaw26.BlockAgain': WHATEVER THE INPUT: true; the input reads as it did. -/
def blockAgainSpec : ChangeSpec := { name := "blockAgain", fn := fun _ => fun
  | [d1, d2] => { results := [.lit (.bool true)], args := [d1, d2] }
  | _ => none }
def blockAgainRow : OpenClaim := { program := "ytmfplinbbcoahaa", sum := "8f4cb2992a1f2a8a05fe237b352285a94cae1e20bed442bb8d94d0cfcf3a5f3f", func := "wayleave/wayleavelaw26.BlockAgain", spec := "blockAgain", inPlace := ["internal/bytealg.MakeNoZero"], unfollowed := true, recurses := true, apart := false }
def BlockAgainSaid : Prop := blockAgainRow.holds Try.pinned (OpenSpec.ofChange blockAgainSpec)

/-- ITS FALSE NEIGHBOUR: 'it returns false'. Refute it at one input. -/
def blockAgainWrong : ChangeSpec := { name := "blockAgain", fn := fun _ => fun
  | [d1, d2] => { results := [.lit (.bool false)], args := [d1, d2] }
  | _ => none }
def BlockAgainWrongFalsely : Prop := blockAgainRow.holds Try.pinned (OpenSpec.ofChange blockAgainWrong)

/-- 'wayleavelaw26.BlockCuts': WHATEVER THE INPUT: true; the input reads as it did. -/
def blockCutsSpec : ChangeSpec := { name := "blockCuts", fn := fun _ => fun
  | [d1, d2, d3, d4] => { results := [.lit (.bool true)], args := [d1, d2, d3, d4] }
  | _ => none }
def blockCutsRow : OpenClaim := { program := "ytmfplinbbcoahaa", sum := "8f4cb2992a1f2a8a05fe237b352285a94cae1e20bed442bb8d94d0cfcf3a5f3f", func := "wayleave/wayleavelaw26.BlockCuts", spec := "blockCuts", inPlace := ["internal/bytealg.MakeNoZero"], unfollowed := true, recurses := true, apart := false }
def BlockCutsSaid : Prop := blockCutsRow.holds Try.pinned (OpenSpec.ofChange blockCutsSpec)

/-- ITS FALSE NEIGHBOUR: 'it returns false'. Refute it at one input. -/
def blockCutsWrong : ChangeSpec := { name := "blockCuts", fn := fun _ => fun
  | [d1, d2, d3, d4] => { results := [.lit (.bool false)], args := [d1, d2, d3, d4] }
  | _ => none }
def BlockCutsWrongFalsely : Prop := blockCutsRow.holds Try.pinned (OpenSpec.ofChange blockCutsWrong)

/-- 'wayleavelaw26.BlockKeeps': WHATEVER THE INPUT: true; the input reads as it did. -/
def blockKeepsSpec : ChangeSpec := { name := "blockKeeps", fn := fun _ => fun
  | [d1, d2] => { results := [.lit (.bool true)], args := [d1, d2] }
  | _ => none }
def blockKeepsRow : OpenClaim := { program := "ytmfplinbbcoahaa", sum := "8f4cb2992a1f2a8a05fe237b352285a94cae1e20bed442bb8d94d0cfcf3a5f3f", func := "wayleave/wayleavelaw26.BlockKeeps", spec := "blockKeeps", inPlace := ["internal/bytealg.MakeNoZero"], unfollowed := true, recurses := true, apart := false }
def BlockKeepsSaid : Prop := blockKeepsRow.holds Try.pinned (OpenSpec.ofChange blockKeepsSpec)

/-- ITS FALSE NEIGHBOUR: 'it returns false'. Refute it at one input. -/
def blockKeepsWrong : ChangeSpec := { name := "blockKeeps", fn := fun _ => fun
  | [d1, d2] => { results := [.lit (.bool false)], args := [d1, d2] }
  | _ => none }
def BlockKeepsWrongFalsely : Prop := blockKeepsRow.holds Try.pinned (OpenSpec.ofChange blockKeepsWrong)

/-- 'wayleavelaw27.PcapPuts': WHATEVER THE INPUT: true; the input reads as it did. -/
def pcapPutsSpec : ChangeSpec := { name := "pcapPuts", fn := fun _ => fun
  | [d] => { results := [.lit (.bool true)], args := [d] }
  | _ => none }
def pcapPutsRow : OpenClaim := { program := "ytmfplinbbcoahaa", sum := "8f4cb2992a1f2a8a05fe237b352285a94cae1e20bed442bb8d94d0cfcf3a5f3f", func := "wayleave/wayleavelaw27.PcapPuts", spec := "pcapPuts", inPlace := ["internal/bytealg.MakeNoZero"], unfollowed := true, recurses := true, apart := false }
def PcapPutsSaid : Prop := pcapPutsRow.holds Try.pinned (OpenSpec.ofChange pcapPutsSpec)

/-- ITS FALSE NEIGHBOUR: 'it returns false'. Refute it at one input. -/
def pcapPutsWrong : ChangeSpec := { name := "pcapPuts", fn := fun _ => fun
  | [d] => { results := [.lit (.bool false)], args := [d] }
  | _ => none }
def PcapPutsWrongFalsely : Prop := pcapPutsRow.holds Try.pinned (OpenSpec.ofChange pcapPutsWrong)

/-- 'wayleavelaw27.PcapReads': WHATEVER THE INPUT: true; the input reads as it did. -/
def pcapReadsSpec : ChangeSpec := { name := "pcapReads", fn := fun _ => fun
  | [d] => { results := [.lit (.bool true)], args := [d] }
  | _ => none }
def pcapReadsRow : OpenClaim := { program := "ytmfplinbbcoahaa", sum := "8f4cb2992a1f2a8a05fe237b352285a94cae1e20bed442bb8d94d0cfcf3a5f3f", func := "wayleave/wayleavelaw27.PcapReads", spec := "pcapReads", inPlace := ["internal/bytealg.MakeNoZero"], unfollowed := true, recurses := true, apart := false }
def PcapReadsSaid : Prop := pcapReadsRow.holds Try.pinned (OpenSpec.ofChange pcapReadsSpec)

/-- ITS FALSE NEIGHBOUR: 'it returns false'. Refute it at one input. -/
def pcapReadsWrong : ChangeSpec := { name := "pcapReads", fn := fun _ => fun
  | [d] => { results := [.lit (.bool false)], args := [d] }
  | _ => none }
def PcapReadsWrongFalsely : Prop := pcapReadsRow.holds Try.pinned (OpenSpec.ofChange pcapReadsWrong)

/-- 'wayleavelaw27.PcapBack': WHATEVER THE INPUT: true; the input reads as it did. -/
def pcapBackSpec : ChangeSpec := { name := "pcapBack", fn := fun _ => fun
  | [d1, d2] => { results := [.lit (.bool true)], args := [d1, d2] }
  | _ => none }
def pcapBackRow : OpenClaim := { program := "ytmfplinbbcoahaa", sum := "8f4cb2992a1f2a8a05fe237b352285a94cae1e20bed442bb8d94d0cfcf3a5f3f", func := "wayleave/wayleavelaw27.PcapBack", spec := "pcapBack", inPlace := ["internal/bytealg.MakeNoZero"], unfollowed := true, recurses := true, apart := false }
def PcapBackSaid : Prop := pcapBackRow.holds Try.pinned (OpenSpec.ofChange pcapBackSpec)

/-- ITS FALSE NEIGHBOUR: 'it returns false'. Refute it at one input. -/
def pcapBackWrong : ChangeSpec := { name := "pcapBack", fn := fun _ => fun
  | [d1, d2] => { results := [.lit (.bool false)], args := [d1, d2] }
  | _ => none }
def PcapBackWrongFalsely : Prop := pcapBackRow.holds Try.pinned (OpenSpec.ofChange pcapBackWrong)

/-- 'wayleavelaw27.PcapCuts': WHATEVER THE INPUT: true; the input reads as it did. -/
def pcapCutsSpec : ChangeSpec := { name := "pcapCuts", fn := fun _ => fun
  | [d1, d2] => { results := [.lit (.bool true)], args := [d1, d2] }
  | _ => none }
def pcapCutsRow : OpenClaim := { program := "ytmfplinbbcoahaa", sum := "8f4cb2992a1f2a8a05fe237b352285a94cae1e20bed442bb8d94d0cfcf3a5f3f", func := "wayleave/wayleavelaw27.PcapCuts", spec := "pcapCuts", inPlace := ["internal/bytealg.MakeNoZero"], unfollowed := true, recurses := true, apart := false }
def PcapCutsSaid : Prop := pcapCutsRow.holds Try.pinned (OpenSpec.ofChange pcapCutsSpec)

/-- ITS FALSE NEIGHBOUR: 'it returns false'. Refute it at one input. -/
def pcapCutsWrong : ChangeSpec := { name := "pcapCuts", fn := fun _ => fun
  | [d1, d2] => { results := [.lit (.bool false)], args := [d1, d2] }
  | _ => none }
def PcapCutsWrongFalsely : Prop := pcapCutsRow.holds Try.pinned (OpenSpec.ofChange pcapCutsWrong)

/-- 'wayleavelaw27.PcapJoins': WHATEVER THE INPUT: true; the input reads as it did. -/
def pcapJoinsSpec : ChangeSpec := { name := "pcapJoins", fn := fun _ => fun
  | [d1, d2] => { results := [.lit (.bool true)], args := [d1, d2] }
  | _ => none }
def pcapJoinsRow : OpenClaim := { program := "ytmfplinbbcoahaa", sum := "8f4cb2992a1f2a8a05fe237b352285a94cae1e20bed442bb8d94d0cfcf3a5f3f", func := "wayleave/wayleavelaw27.PcapJoins", spec := "pcapJoins", inPlace := ["internal/bytealg.MakeNoZero"], unfollowed := true, recurses := true, apart := false }
def PcapJoinsSaid : Prop := pcapJoinsRow.holds Try.pinned (OpenSpec.ofChange pcapJoinsSpec)

/-- ITS FALSE NEIGHBOUR: 'it returns false'. Refute it at one input. -/
def pcapJoinsWrong : ChangeSpec := { name := "pcapJoins", fn := fun _ => fun
  | [d1, d2] => { results := [.lit (.bool false)], args := [d1, d2] }
  | _ => none }
def PcapJoinsWrongFalsely : Prop := pcapJoinsRow.holds Try.pinned (OpenSpec.ofChange pcapJoinsWrong)

/-- 'wayleavelaw27.PcapFrames': WHATEVER THE INPUT: true; the input reads as it did. -/
def pcapFramesSpec : ChangeSpec := { name := "pcapFrames", fn := fun _ => fun
  | [d] => { results := [.lit (.bool true)], args := [d] }
  | _ => none }
def pcapFramesRow : OpenClaim := { program := "ytmfplinbbcoahaa", sum := "8f4cb2992a1f2a8a05fe237b352285a94cae1e20bed442bb8d94d0cfcf3a5f3f", func := "wayleave/wayleavelaw27.PcapFrames", spec := "pcapFrames", inPlace := ["internal/bytealg.MakeNoZero"], unfollowed := true, recurses := true, apart := false }
def PcapFramesSaid : Prop := pcapFramesRow.holds Try.pinned (OpenSpec.ofChange pcapFramesSpec)

/-- ITS FALSE NEIGHBOUR: 'it returns false'. Refute it at one input. -/
def pcapFramesWrong : ChangeSpec := { name := "pcapFrames", fn := fun _ => fun
  | [d] => { results := [.lit (.bool false)], args := [d] }
  | _ => none }
def PcapFramesWrongFalsely : Prop := pcapFramesRow.holds Try.pinned (OpenSpec.ofChange pcapFramesWrong)

/-- 'wayleavelaw27.PcapKeeps': WHATEVER THE INPUT: true; the input reads as it did. -/
def pcapKeepsSpec : ChangeSpec := { name := "pcapKeeps", fn := fun _ => fun
  | [d] => { results := [.lit (.bool true)], args := [d] }
  | _ => none }
def pcapKeepsRow : OpenClaim := { program := "ytmfplinbbcoahaa", sum := "8f4cb2992a1f2a8a05fe237b352285a94cae1e20bed442bb8d94d0cfcf3a5f3f", func := "wayleave/wayleavelaw27.PcapKeeps", spec := "pcapKeeps", inPlace := ["internal/bytealg.MakeNoZero"], unfollowed := true, recurses := true, apart := false }
def PcapKeepsSaid : Prop := pcapKeepsRow.holds Try.pinned (OpenSpec.ofChange pcapKeepsSpec)

/-- ITS FALSE NEIGHBOUR: 'it returns false'. Refute it at one input. -/
def pcapKeepsWrong : ChangeSpec := { name := "pcapKeeps", fn := fun _ => fun
  | [d] => { results := [.lit (.bool false)], args := [d] }
  | _ => none }
def PcapKeepsWrongFalsely : Prop := pcapKeepsRow.holds Try.pinned (OpenSpec.ofChange pcapKeepsWrong)

/- THE SECOND FORM. 'bulk': how many values and letters a reading holds, each counted each time it is reached (what is shared counts as often as it is met; a slice's spare places count too). A statement '..UptoSaid' is the law's where the arguments, and the package variables that the reading takes, are together of bulk at most 1048576: NARROWER than '..Said'. Prove '..Said' where nothing that the law and all that it calls make is longer than what came in: it says more and counts as full. Else prove '..UptoSaid'. A law counts once. -/
mutual
def uptoBulk {H : Type} : DataW H → Nat
  | .lit (.string bytes) => bytes.length + 1
  | .lit _ => 1
  | .nil => 1
  | .ptr d => uptoBulk d + 1
  | .slice elems spare => uptoBulkAll elems + uptoBulkAll spare + 1
  | .agg parts => uptoBulkAll parts + 1
  | .iface _ d => uptoBulk d + 1
  | .map entries => uptoBulkEntries entries + 1
  | .held _ => 1
def uptoBulkAll {H : Type} : List (DataW H) → Nat
  | [] => 0
  | d :: r => uptoBulk d + uptoBulkAll r
def uptoBulkEntries {H : Type} : List (Lit × DataW H) → Nat
  | [] => 0
  | x :: r => uptoBulkEntry x + uptoBulkEntries r
def uptoBulkEntry {H : Type} : Lit × DataW H → Nat
  | (.string bytes, d) => bytes.length + uptoBulk d + 1
  | (_, d) => uptoBulk d + 1
 end
def uptoSmall : (H : Type) → List (DataW H) → Bool := fun _ ds => decide (uptoBulkAll ds ≤ 1048576)
def OpenSpec.upto (s : _root_.Go.ChangeSpec) : _root_.Go.OpenSpec := { _root_.Go.OpenSpec.ofChange s with cond := some uptoSmall }

/-- 'wayleavelaw26.BlockRights', WHERE WHAT IT READS IS OF BULK AT MOST 1048576: true; the input reads as it did. -/
def blockRightsUptoRow : OpenClaim := { program := "ytmfplinbbcoahaa", sum := "8f4cb2992a1f2a8a05fe237b352285a94cae1e20bed442bb8d94d0cfcf3a5f3f", func := "wayleave/wayleavelaw26.BlockRights", spec := "blockRights", inPlace := ["internal/bytealg.MakeNoZero"], unfollowed := true, recurses := true, apart := false, narrowed := true }
def BlockRightsUptoSaid : Prop := blockRightsUptoRow.holds Try.pinned (OpenSpec.upto blockRightsSpec)

/-- 'wayleavelaw26.BlockPuts', WHERE WHAT IT READS IS OF BULK AT MOST 1048576: true; the input reads as it did. -/
def blockPutsUptoRow : OpenClaim := { program := "ytmfplinbbcoahaa", sum := "8f4cb2992a1f2a8a05fe237b352285a94cae1e20bed442bb8d94d0cfcf3a5f3f", func := "wayleave/wayleavelaw26.BlockPuts", spec := "blockPuts", inPlace := ["internal/bytealg.MakeNoZero"], unfollowed := true, recurses := true, apart := false, narrowed := true }
def BlockPutsUptoSaid : Prop := blockPutsUptoRow.holds Try.pinned (OpenSpec.upto blockPutsSpec)

/-- 'wayleavelaw26.BlockGets', WHERE WHAT IT READS IS OF BULK AT MOST 1048576: true; the input reads as it did. -/
def blockGetsUptoRow : OpenClaim := { program := "ytmfplinbbcoahaa", sum := "8f4cb2992a1f2a8a05fe237b352285a94cae1e20bed442bb8d94d0cfcf3a5f3f", func := "wayleave/wayleavelaw26.BlockGets", spec := "blockGets", inPlace := ["internal/bytealg.MakeNoZero"], unfollowed := true, recurses := true, apart := false, narrowed := true }
def BlockGetsUptoSaid : Prop := blockGetsUptoRow.holds Try.pinned (OpenSpec.upto blockGetsSpec)

/-- 'wayleavelaw26.BlockBack', WHERE WHAT IT READS IS OF BULK AT MOST 1048576: true; the input reads as it did. -/
def blockBackUptoRow : OpenClaim := { program := "ytmfplinbbcoahaa", sum := "8f4cb2992a1f2a8a05fe237b352285a94cae1e20bed442bb8d94d0cfcf3a5f3f", func := "wayleave/wayleavelaw26.BlockBack", spec := "blockBack", inPlace := ["internal/bytealg.MakeNoZero"], unfollowed := true, recurses := true, apart := false, narrowed := true }
def BlockBackUptoSaid : Prop := blockBackUptoRow.holds Try.pinned (OpenSpec.upto blockBackSpec)

/-- 'wayleavelaw26.BlockAgain', WHERE WHAT IT READS IS OF BULK AT MOST 1048576: true; the input reads as it did. -/
def blockAgainUptoRow : OpenClaim := { program := "ytmfplinbbcoahaa", sum := "8f4cb2992a1f2a8a05fe237b352285a94cae1e20bed442bb8d94d0cfcf3a5f3f", func := "wayleave/wayleavelaw26.BlockAgain", spec := "blockAgain", inPlace := ["internal/bytealg.MakeNoZero"], unfollowed := true, recurses := true, apart := false, narrowed := true }
def BlockAgainUptoSaid : Prop := blockAgainUptoRow.holds Try.pinned (OpenSpec.upto blockAgainSpec)

/-- 'wayleavelaw26.BlockCuts', WHERE WHAT IT READS IS OF BULK AT MOST 1048576: true; the input reads as it did. -/
def blockCutsUptoRow : OpenClaim := { program := "ytmfplinbbcoahaa", sum := "8f4cb2992a1f2a8a05fe237b352285a94cae1e20bed442bb8d94d0cfcf3a5f3f", func := "wayleave/wayleavelaw26.BlockCuts", spec := "blockCuts", inPlace := ["internal/bytealg.MakeNoZero"], unfollowed := true, recurses := true, apart := false, narrowed := true }
def BlockCutsUptoSaid : Prop := blockCutsUptoRow.holds Try.pinned (OpenSpec.upto blockCutsSpec)

/-- 'wayleavelaw26.BlockKeeps', WHERE WHAT IT READS IS OF BULK AT MOST 1048576: true; the input reads as it did. -/
def blockKeepsUptoRow : OpenClaim := { program := "ytmfplinbbcoahaa", sum := "8f4cb2992a1f2a8a05fe237b352285a94cae1e20bed442bb8d94d0cfcf3a5f3f", func := "wayleave/wayleavelaw26.BlockKeeps", spec := "blockKeeps", inPlace := ["internal/bytealg.MakeNoZero"], unfollowed := true, recurses := true, apart := false, narrowed := true }
def BlockKeepsUptoSaid : Prop := blockKeepsUptoRow.holds Try.pinned (OpenSpec.upto blockKeepsSpec)

/-- 'wayleavelaw27.PcapPuts', WHERE WHAT IT READS IS OF BULK AT MOST 1048576: true; the input reads as it did. -/
def pcapPutsUptoRow : OpenClaim := { program := "ytmfplinbbcoahaa", sum := "8f4cb2992a1f2a8a05fe237b352285a94cae1e20bed442bb8d94d0cfcf3a5f3f", func := "wayleave/wayleavelaw27.PcapPuts", spec := "pcapPuts", inPlace := ["internal/bytealg.MakeNoZero"], unfollowed := true, recurses := true, apart := false, narrowed := true }
def PcapPutsUptoSaid : Prop := pcapPutsUptoRow.holds Try.pinned (OpenSpec.upto pcapPutsSpec)

/-- 'wayleavelaw27.PcapReads', WHERE WHAT IT READS IS OF BULK AT MOST 1048576: true; the input reads as it did. -/
def pcapReadsUptoRow : OpenClaim := { program := "ytmfplinbbcoahaa", sum := "8f4cb2992a1f2a8a05fe237b352285a94cae1e20bed442bb8d94d0cfcf3a5f3f", func := "wayleave/wayleavelaw27.PcapReads", spec := "pcapReads", inPlace := ["internal/bytealg.MakeNoZero"], unfollowed := true, recurses := true, apart := false, narrowed := true }
def PcapReadsUptoSaid : Prop := pcapReadsUptoRow.holds Try.pinned (OpenSpec.upto pcapReadsSpec)

/-- 'wayleavelaw27.PcapBack', WHERE WHAT IT READS IS OF BULK AT MOST 1048576: true; the input reads as it did. -/
def pcapBackUptoRow : OpenClaim := { program := "ytmfplinbbcoahaa", sum := "8f4cb2992a1f2a8a05fe237b352285a94cae1e20bed442bb8d94d0cfcf3a5f3f", func := "wayleave/wayleavelaw27.PcapBack", spec := "pcapBack", inPlace := ["internal/bytealg.MakeNoZero"], unfollowed := true, recurses := true, apart := false, narrowed := true }
def PcapBackUptoSaid : Prop := pcapBackUptoRow.holds Try.pinned (OpenSpec.upto pcapBackSpec)

/-- 'wayleavelaw27.PcapCuts', WHERE WHAT IT READS IS OF BULK AT MOST 1048576: true; the input reads as it did. -/
def pcapCutsUptoRow : OpenClaim := { program := "ytmfplinbbcoahaa", sum := "8f4cb2992a1f2a8a05fe237b352285a94cae1e20bed442bb8d94d0cfcf3a5f3f", func := "wayleave/wayleavelaw27.PcapCuts", spec := "pcapCuts", inPlace := ["internal/bytealg.MakeNoZero"], unfollowed := true, recurses := true, apart := false, narrowed := true }
def PcapCutsUptoSaid : Prop := pcapCutsUptoRow.holds Try.pinned (OpenSpec.upto pcapCutsSpec)

/-- 'wayleavelaw27.PcapJoins', WHERE WHAT IT READS IS OF BULK AT MOST 1048576: true; the input reads as it did. -/
def pcapJoinsUptoRow : OpenClaim := { program := "ytmfplinbbcoahaa", sum := "8f4cb2992a1f2a8a05fe237b352285a94cae1e20bed442bb8d94d0cfcf3a5f3f", func := "wayleave/wayleavelaw27.PcapJoins", spec := "pcapJoins", inPlace := ["internal/bytealg.MakeNoZero"], unfollowed := true, recurses := true, apart := false, narrowed := true }
def PcapJoinsUptoSaid : Prop := pcapJoinsUptoRow.holds Try.pinned (OpenSpec.upto pcapJoinsSpec)

/-- 'wayleavelaw27.PcapFrames', WHERE WHAT IT READS IS OF BULK AT MOST 1048576: true; the input reads as it did. -/
def pcapFramesUptoRow : OpenClaim := { program := "ytmfplinbbcoahaa", sum := "8f4cb2992a1f2a8a05fe237b352285a94cae1e20bed442bb8d94d0cfcf3a5f3f", func := "wayleave/wayleavelaw27.PcapFrames", spec := "pcapFrames", inPlace := ["internal/bytealg.MakeNoZero"], unfollowed := true, recurses := true, apart := false, narrowed := true }
def PcapFramesUptoSaid : Prop := pcapFramesUptoRow.holds Try.pinned (OpenSpec.upto pcapFramesSpec)

/-- 'wayleavelaw27.PcapKeeps', WHERE WHAT IT READS IS OF BULK AT MOST 1048576: true; the input reads as it did. -/
def pcapKeepsUptoRow : OpenClaim := { program := "ytmfplinbbcoahaa", sum := "8f4cb2992a1f2a8a05fe237b352285a94cae1e20bed442bb8d94d0cfcf3a5f3f", func := "wayleave/wayleavelaw27.PcapKeeps", spec := "pcapKeeps", inPlace := ["internal/bytealg.MakeNoZero"], unfollowed := true, recurses := true, apart := false, narrowed := true }
def PcapKeepsUptoSaid : Prop := pcapKeepsUptoRow.holds Try.pinned (OpenSpec.upto pcapKeepsSpec)

end Rows
end Go.Proofs.Ytmfplinbbcoahaa
