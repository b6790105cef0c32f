/-
  No cell of these rows narrows 'for every input' (looked for: loops, veiled, ifaces, maps, wideKeys, modest, calm, conditions, laid).
  DERIVED. THE GIVEN ROWS OF THIS SEAT. 8 by the template 'for every input the law returns true; each argument reads behind the call as it read before'; 0 by the template 'total and deterministic' (their statements: YtbonfgnmipmmbaaTotals.lean).
  GIVEN WITH THE SEED: the statements are not yours to turn. If you find one false, say at which input.
  Laid BY PROGRAM, IN A SANDBOX (cutbox-rows.mjs): the forced cells as the released guide's own fill.sh prints them over the translation ec26c51da16cccf5… (all of the seat's roots in one cut). By AI agents, Wed Nov 11 2026. No macro, syntax, notation, axiom, sorry.
-/
import Derived.Test.YtbonfgnmipmmbaaChecked
import GoSem.Claim
import GoSem.ClaimJoined
import GoSem.ClaimMapViews
import Derived.JoinedTies
import Derived.KernelRfl
namespace Go.Proofs.Ytbonfgnmipmmbaa
/- THE CELL 'sum', in the pinned program and in every row, IS THE sha256 OF THE DUMP (.gsa) THAT YtbonfgnmipmmbaaProg.lean LOADS. Nothing in Lean hashes anything: it is a label: what it is worth is what the hold of that sum in a sandbox is worth. -/
noncomputable def Try.pinned : Pinned := { name := "ytbonfgnmipmmbaa", sum := "ec26c51da16cccf5adaaf7683b92632643beff93d06b03a9f37c46ac5951aae0", checked := Try.checked }
namespace Rows
def none {H : Type} : Left H := { results := [], args := [] }

/-- 'tephralaw04.FilesFlip': WHATEVER THE INPUT: true; the input reads as it did. -/
def filesFlipSpec : ChangeSpec := { name := "filesFlip", fn := fun _ => fun
  | [d1, d2, d3] => { results := [.lit (.bool true)], args := [d1, d2, d3] }
  | _ => none }
def filesFlipRow : OpenClaim := { program := "ytbonfgnmipmmbaa", sum := "ec26c51da16cccf5adaaf7683b92632643beff93d06b03a9f37c46ac5951aae0", func := "tephra/tephralaw04.FilesFlip", spec := "filesFlip", inPlace := ["maps.clone"], apart := false }
def FilesFlipSaid : Prop := filesFlipRow.holds Try.pinned (OpenSpec.ofChange filesFlipSpec)

/-- ITS FALSE NEIGHBOUR: 'it returns false'. Refute it at one input. -/
def filesFlipWrong : ChangeSpec := { name := "filesFlip", fn := fun _ => fun
  | [d1, d2, d3] => { results := [.lit (.bool false)], args := [d1, d2, d3] }
  | _ => none }
def FilesFlipWrongFalsely : Prop := filesFlipRow.holds Try.pinned (OpenSpec.ofChange filesFlipWrong)

/-- 'tephralaw04.FilesSafe': WHATEVER THE INPUT: true; the input reads as it did. -/
def filesSafeSpec : ChangeSpec := { name := "filesSafe", fn := fun _ => fun
  | [d1, d2, d3, d4] => { results := [.lit (.bool true)], args := [d1, d2, d3, d4] }
  | _ => none }
def filesSafeRow : OpenClaim := { program := "ytbonfgnmipmmbaa", sum := "ec26c51da16cccf5adaaf7683b92632643beff93d06b03a9f37c46ac5951aae0", func := "tephra/tephralaw04.FilesSafe", spec := "filesSafe", inPlace := ["maps.clone"], apart := false }
def FilesSafeSaid : Prop := filesSafeRow.holds Try.pinned (OpenSpec.ofChange filesSafeSpec)

/-- ITS FALSE NEIGHBOUR: 'it returns false'. Refute it at one input. -/
def filesSafeWrong : ChangeSpec := { name := "filesSafe", fn := fun _ => fun
  | [d1, d2, d3, d4] => { results := [.lit (.bool false)], args := [d1, d2, d3, d4] }
  | _ => none }
def FilesSafeWrongFalsely : Prop := filesSafeRow.holds Try.pinned (OpenSpec.ofChange filesSafeWrong)

/-- 'tephralaw04.FilesFull': WHATEVER THE INPUT: true; the input reads as it did. -/
def filesFullSpec : ChangeSpec := { name := "filesFull", fn := fun _ => fun
  | [d1, d2] => { results := [.lit (.bool true)], args := [d1, d2] }
  | _ => none }
def filesFullRow : OpenClaim := { program := "ytbonfgnmipmmbaa", sum := "ec26c51da16cccf5adaaf7683b92632643beff93d06b03a9f37c46ac5951aae0", func := "tephra/tephralaw04.FilesFull", spec := "filesFull", inPlace := ["maps.clone"], apart := false }
def FilesFullSaid : Prop := filesFullRow.holds Try.pinned (OpenSpec.ofChange filesFullSpec)

/-- ITS FALSE NEIGHBOUR: 'it returns false'. Refute it at one input. -/
def filesFullWrong : ChangeSpec := { name := "filesFull", fn := fun _ => fun
  | [d1, d2] => { results := [.lit (.bool false)], args := [d1, d2] }
  | _ => none }
def FilesFullWrongFalsely : Prop := filesFullRow.holds Try.pinned (OpenSpec.ofChange filesFullWrong)

/-- 'tephralaw04.FilesRename': WHATEVER THE INPUT: true; the input reads as it did. -/
def filesRenameSpec : ChangeSpec := { name := "filesRename", fn := fun _ => fun
  | [d1, d2, d3, d4] => { results := [.lit (.bool true)], args := [d1, d2, d3, d4] }
  | _ => none }
def filesRenameRow : OpenClaim := { program := "ytbonfgnmipmmbaa", sum := "ec26c51da16cccf5adaaf7683b92632643beff93d06b03a9f37c46ac5951aae0", func := "tephra/tephralaw04.FilesRename", spec := "filesRename", inPlace := ["maps.clone"], unfollowed := true, recurses := true, apart := false }
def FilesRenameSaid : Prop := filesRenameRow.holds Try.pinned (OpenSpec.ofChange filesRenameSpec)

/-- ITS FALSE NEIGHBOUR: 'it returns false'. Refute it at one input. -/
def filesRenameWrong : ChangeSpec := { name := "filesRename", fn := fun _ => fun
  | [d1, d2, d3, d4] => { results := [.lit (.bool false)], args := [d1, d2, d3, d4] }
  | _ => none }
def FilesRenameWrongFalsely : Prop := filesRenameRow.holds Try.pinned (OpenSpec.ofChange filesRenameWrong)

/-- 'tephralaw04.FilesCut': WHATEVER THE INPUT: true; the input reads as it did. -/
def filesCutSpec : ChangeSpec := { name := "filesCut", fn := fun _ => fun
  | [d1, d2, d3, d4] => { results := [.lit (.bool true)], args := [d1, d2, d3, d4] }
  | _ => none }
def filesCutRow : OpenClaim := { program := "ytbonfgnmipmmbaa", sum := "ec26c51da16cccf5adaaf7683b92632643beff93d06b03a9f37c46ac5951aae0", func := "tephra/tephralaw04.FilesCut", spec := "filesCut", inPlace := ["maps.clone"], apart := false }
def FilesCutSaid : Prop := filesCutRow.holds Try.pinned (OpenSpec.ofChange filesCutSpec)

/-- ITS FALSE NEIGHBOUR: 'it returns false'. Refute it at one input. -/
def filesCutWrong : ChangeSpec := { name := "filesCut", fn := fun _ => fun
  | [d1, d2, d3, d4] => { results := [.lit (.bool false)], args := [d1, d2, d3, d4] }
  | _ => none }
def FilesCutWrongFalsely : Prop := filesCutRow.holds Try.pinned (OpenSpec.ofChange filesCutWrong)

/-- 'tephralaw04.FilesDown': WHATEVER THE INPUT: true; the input reads as it did. -/
def filesDownSpec : ChangeSpec := { name := "filesDown", fn := fun _ => fun
  | [d1, d2] => { results := [.lit (.bool true)], args := [d1, d2] }
  | _ => none }
def filesDownRow : OpenClaim := { program := "ytbonfgnmipmmbaa", sum := "ec26c51da16cccf5adaaf7683b92632643beff93d06b03a9f37c46ac5951aae0", func := "tephra/tephralaw04.FilesDown", spec := "filesDown", inPlace := ["maps.clone"], apart := false }
def FilesDownSaid : Prop := filesDownRow.holds Try.pinned (OpenSpec.ofChange filesDownSpec)

/-- ITS FALSE NEIGHBOUR: 'it returns false'. Refute it at one input. -/
def filesDownWrong : ChangeSpec := { name := "filesDown", fn := fun _ => fun
  | [d1, d2] => { results := [.lit (.bool false)], args := [d1, d2] }
  | _ => none }
def FilesDownWrongFalsely : Prop := filesDownRow.holds Try.pinned (OpenSpec.ofChange filesDownWrong)

/-- 'tephralaw04.FilesMany': WHATEVER THE INPUT: true; the input reads as it did. -/
def filesManySpec : ChangeSpec := { name := "filesMany", fn := fun _ => fun
  | [d] => { results := [.lit (.bool true)], args := [d] }
  | _ => none }
def filesManyRow : OpenClaim := { program := "ytbonfgnmipmmbaa", sum := "ec26c51da16cccf5adaaf7683b92632643beff93d06b03a9f37c46ac5951aae0", func := "tephra/tephralaw04.FilesMany", spec := "filesMany", inPlace := ["maps.clone"], unfollowed := true, recurses := true, apart := false }
def FilesManySaid : Prop := filesManyRow.holds Try.pinned (OpenSpec.ofChange filesManySpec)

/-- ITS FALSE NEIGHBOUR: 'it returns false'. Refute it at one input. -/
def filesManyWrong : ChangeSpec := { name := "filesMany", fn := fun _ => fun
  | [d] => { results := [.lit (.bool false)], args := [d] }
  | _ => none }
def FilesManyWrongFalsely : Prop := filesManyRow.holds Try.pinned (OpenSpec.ofChange filesManyWrong)

/-- 'tephralaw04.FilesScript': WHATEVER THE INPUT: true; the input reads as it did. -/
def filesScriptSpec : ChangeSpec := { name := "filesScript", fn := fun _ => fun
  | [d1, d2] => { results := [.lit (.bool true)], args := [d1, d2] }
  | _ => none }
def filesScriptRow : OpenClaim := { program := "ytbonfgnmipmmbaa", sum := "ec26c51da16cccf5adaaf7683b92632643beff93d06b03a9f37c46ac5951aae0", func := "tephra/tephralaw04.FilesScript", spec := "filesScript", inPlace := ["maps.clone"], unfollowed := true, recurses := true, apart := false }
def FilesScriptSaid : Prop := filesScriptRow.holds Try.pinned (OpenSpec.ofChange filesScriptSpec)

/-- ITS FALSE NEIGHBOUR: 'it returns false'. Refute it at one input. -/
def filesScriptWrong : ChangeSpec := { name := "filesScript", fn := fun _ => fun
  | [d1, d2] => { results := [.lit (.bool false)], args := [d1, d2] }
  | _ => none }
def FilesScriptWrongFalsely : Prop := filesScriptRow.holds Try.pinned (OpenSpec.ofChange filesScriptWrong)

/- THE SECOND FORM. 'bulk': how many values and letters a reading holds, each counted each time it is reached (what is shared counts as often as it is met; a slice's spare places count too). A statement '..UptoSaid' is the law's where the arguments, and the package variables that the reading takes, are together of bulk at most 1048576: NARROWER than '..Said'. Prove '..Said' where nothing that the law and all that it calls make is longer than what came in: it says more and counts as full. Else prove '..UptoSaid'. A law counts once. -/
mutual
def uptoBulk {H : Type} : DataW H → Nat
  | .lit (.string bytes) => bytes.length + 1
  | .lit _ => 1
  | .nil => 1
  | .ptr d => uptoBulk d + 1
  | .slice elems spare => uptoBulkAll elems + uptoBulkAll spare + 1
  | .agg parts => uptoBulkAll parts + 1
  | .iface _ d => uptoBulk d + 1
  | .map entries => uptoBulkEntries entries + 1
  | .held _ => 1
def uptoBulkAll {H : Type} : List (DataW H) → Nat
  | [] => 0
  | d :: r => uptoBulk d + uptoBulkAll r
def uptoBulkEntries {H : Type} : List (Lit × DataW H) → Nat
  | [] => 0
  | x :: r => uptoBulkEntry x + uptoBulkEntries r
def uptoBulkEntry {H : Type} : Lit × DataW H → Nat
  | (.string bytes, d) => bytes.length + uptoBulk d + 1
  | (_, d) => uptoBulk d + 1
 end
def uptoSmall : (H : Type) → List (DataW H) → Bool := fun _ ds => decide (uptoBulkAll ds ≤ 1048576)
def OpenSpec.upto (s : _root_.Go.ChangeSpec) : _root_.Go.OpenSpec := { _root_.Go.OpenSpec.ofChange s with cond := some uptoSmall }

/-- 'tephralaw04.FilesFlip', WHERE WHAT IT READS IS OF BULK AT MOST 1048576: true; the input reads as it did. -/
def filesFlipUptoRow : OpenClaim := { program := "ytbonfgnmipmmbaa", sum := "ec26c51da16cccf5adaaf7683b92632643beff93d06b03a9f37c46ac5951aae0", func := "tephra/tephralaw04.FilesFlip", spec := "filesFlip", inPlace := ["maps.clone"], apart := false, narrowed := true }
def FilesFlipUptoSaid : Prop := filesFlipUptoRow.holds Try.pinned (OpenSpec.upto filesFlipSpec)

/-- 'tephralaw04.FilesSafe', WHERE WHAT IT READS IS OF BULK AT MOST 1048576: true; the input reads as it did. -/
def filesSafeUptoRow : OpenClaim := { program := "ytbonfgnmipmmbaa", sum := "ec26c51da16cccf5adaaf7683b92632643beff93d06b03a9f37c46ac5951aae0", func := "tephra/tephralaw04.FilesSafe", spec := "filesSafe", inPlace := ["maps.clone"], apart := false, narrowed := true }
def FilesSafeUptoSaid : Prop := filesSafeUptoRow.holds Try.pinned (OpenSpec.upto filesSafeSpec)

/-- 'tephralaw04.FilesFull', WHERE WHAT IT READS IS OF BULK AT MOST 1048576: true; the input reads as it did. -/
def filesFullUptoRow : OpenClaim := { program := "ytbonfgnmipmmbaa", sum := "ec26c51da16cccf5adaaf7683b92632643beff93d06b03a9f37c46ac5951aae0", func := "tephra/tephralaw04.FilesFull", spec := "filesFull", inPlace := ["maps.clone"], apart := false, narrowed := true }
def FilesFullUptoSaid : Prop := filesFullUptoRow.holds Try.pinned (OpenSpec.upto filesFullSpec)

/-- 'tephralaw04.FilesRename', WHERE WHAT IT READS IS OF BULK AT MOST 1048576: true; the input reads as it did. -/
def filesRenameUptoRow : OpenClaim := { program := "ytbonfgnmipmmbaa", sum := "ec26c51da16cccf5adaaf7683b92632643beff93d06b03a9f37c46ac5951aae0", func := "tephra/tephralaw04.FilesRename", spec := "filesRename", inPlace := ["maps.clone"], unfollowed := true, recurses := true, apart := false, narrowed := true }
def FilesRenameUptoSaid : Prop := filesRenameUptoRow.holds Try.pinned (OpenSpec.upto filesRenameSpec)

/-- 'tephralaw04.FilesCut', WHERE WHAT IT READS IS OF BULK AT MOST 1048576: true; the input reads as it did. -/
def filesCutUptoRow : OpenClaim := { program := "ytbonfgnmipmmbaa", sum := "ec26c51da16cccf5adaaf7683b92632643beff93d06b03a9f37c46ac5951aae0", func := "tephra/tephralaw04.FilesCut", spec := "filesCut", inPlace := ["maps.clone"], apart := false, narrowed := true }
def FilesCutUptoSaid : Prop := filesCutUptoRow.holds Try.pinned (OpenSpec.upto filesCutSpec)

/-- 'tephralaw04.FilesDown', WHERE WHAT IT READS IS OF BULK AT MOST 1048576: true; the input reads as it did. -/
def filesDownUptoRow : OpenClaim := { program := "ytbonfgnmipmmbaa", sum := "ec26c51da16cccf5adaaf7683b92632643beff93d06b03a9f37c46ac5951aae0", func := "tephra/tephralaw04.FilesDown", spec := "filesDown", inPlace := ["maps.clone"], apart := false, narrowed := true }
def FilesDownUptoSaid : Prop := filesDownUptoRow.holds Try.pinned (OpenSpec.upto filesDownSpec)

/-- 'tephralaw04.FilesMany', WHERE WHAT IT READS IS OF BULK AT MOST 1048576: true; the input reads as it did. -/
def filesManyUptoRow : OpenClaim := { program := "ytbonfgnmipmmbaa", sum := "ec26c51da16cccf5adaaf7683b92632643beff93d06b03a9f37c46ac5951aae0", func := "tephra/tephralaw04.FilesMany", spec := "filesMany", inPlace := ["maps.clone"], unfollowed := true, recurses := true, apart := false, narrowed := true }
def FilesManyUptoSaid : Prop := filesManyUptoRow.holds Try.pinned (OpenSpec.upto filesManySpec)

/-- 'tephralaw04.FilesScript', WHERE WHAT IT READS IS OF BULK AT MOST 1048576: true; the input reads as it did. -/
def filesScriptUptoRow : OpenClaim := { program := "ytbonfgnmipmmbaa", sum := "ec26c51da16cccf5adaaf7683b92632643beff93d06b03a9f37c46ac5951aae0", func := "tephra/tephralaw04.FilesScript", spec := "filesScript", inPlace := ["maps.clone"], unfollowed := true, recurses := true, apart := false, narrowed := true }
def FilesScriptUptoSaid : Prop := filesScriptUptoRow.holds Try.pinned (OpenSpec.upto filesScriptSpec)

end Rows
end Go.Proofs.Ytbonfgnmipmmbaa
