/-
  No cell of these rows narrows 'for every input' (looked for: loops, veiled, ifaces, maps, wideKeys, modest, calm, conditions, laid).
  DERIVED. THE GIVEN ROWS OF THIS SEAT. 8 by the template 'for every input the law returns true; each argument reads behind the call as it read before'; 0 by the template 'total and deterministic' (their statements: YtjlhookdigbjhaaTotals.lean).
  GIVEN WITH THE SEED: the statements are not yours to turn. If you find one false, say at which input.
  Laid BY PROGRAM, IN A SANDBOX (cutbox-rows.mjs): the forced cells as the released guide's own fill.sh prints them over the translation 60d53e49e381470e… (all of the seat's roots in one cut). By AI agents, Wed Nov 11 2026. No macro, syntax, notation, axiom, sorry.
-/
import Derived.Test.YtjlhookdigbjhaaChecked
import GoSem.Claim
import GoSem.ClaimJoined
import GoSem.ClaimMapViews
import Derived.JoinedTies
import Derived.KernelRfl
namespace Go.Proofs.Ytjlhookdigbjhaa
/- THE CELL 'sum', in the pinned program and in every row, IS THE sha256 OF THE DUMP (.gsa) THAT YtjlhookdigbjhaaProg.lean LOADS. Nothing in Lean hashes anything: it is a label: what it is worth is what the hold of that sum in a sandbox is worth. -/
noncomputable def Try.pinned : Pinned := { name := "ytjlhookdigbjhaa", sum := "60d53e49e381470ef9e7353aad5d74e31cd66ed77ada558610c4af59e957c1c0", checked := Try.checked }
namespace Rows
def none {H : Type} : Left H := { results := [], args := [] }

/-- 'tephralaw10.EditsMay': WHATEVER THE INPUT: true; the input reads as it did. -/
def editsMaySpec : ChangeSpec := { name := "editsMay", fn := fun _ => fun
  | [d1, d2] => { results := [.lit (.bool true)], args := [d1, d2] }
  | _ => none }
def editsMayRow : OpenClaim := { program := "ytjlhookdigbjhaa", sum := "60d53e49e381470ef9e7353aad5d74e31cd66ed77ada558610c4af59e957c1c0", func := "tephra/tephralaw10.EditsMay", spec := "editsMay", inPlace := ["internal/bytealg.abigen_runtime_cmpstring"], unfollowed := true, recurses := true, apart := false }
def EditsMaySaid : Prop := editsMayRow.holds Try.pinned (OpenSpec.ofChange editsMaySpec)

/-- ITS FALSE NEIGHBOUR: 'it returns false'. Refute it at one input. -/
def editsMayWrong : ChangeSpec := { name := "editsMay", fn := fun _ => fun
  | [d1, d2] => { results := [.lit (.bool false)], args := [d1, d2] }
  | _ => none }
def EditsMayWrongFalsely : Prop := editsMayRow.holds Try.pinned (OpenSpec.ofChange editsMayWrong)

/-- 'tephralaw10.EditsFloor': WHATEVER THE INPUT: true; the input reads as it did. -/
def editsFloorSpec : ChangeSpec := { name := "editsFloor", fn := fun _ => fun
  | [d1, d2] => { results := [.lit (.bool true)], args := [d1, d2] }
  | _ => none }
def editsFloorRow : OpenClaim := { program := "ytjlhookdigbjhaa", sum := "60d53e49e381470ef9e7353aad5d74e31cd66ed77ada558610c4af59e957c1c0", func := "tephra/tephralaw10.EditsFloor", spec := "editsFloor", inPlace := ["internal/bytealg.abigen_runtime_cmpstring"], unfollowed := true, recurses := true, apart := false }
def EditsFloorSaid : Prop := editsFloorRow.holds Try.pinned (OpenSpec.ofChange editsFloorSpec)

/-- ITS FALSE NEIGHBOUR: 'it returns false'. Refute it at one input. -/
def editsFloorWrong : ChangeSpec := { name := "editsFloor", fn := fun _ => fun
  | [d1, d2] => { results := [.lit (.bool false)], args := [d1, d2] }
  | _ => none }
def EditsFloorWrongFalsely : Prop := editsFloorRow.holds Try.pinned (OpenSpec.ofChange editsFloorWrong)

/-- 'tephralaw10.EditsOnce': WHATEVER THE INPUT: true; the input reads as it did. -/
def editsOnceSpec : ChangeSpec := { name := "editsOnce", fn := fun _ => fun
  | [d1, d2] => { results := [.lit (.bool true)], args := [d1, d2] }
  | _ => none }
def editsOnceRow : OpenClaim := { program := "ytjlhookdigbjhaa", sum := "60d53e49e381470ef9e7353aad5d74e31cd66ed77ada558610c4af59e957c1c0", func := "tephra/tephralaw10.EditsOnce", spec := "editsOnce", inPlace := ["internal/bytealg.abigen_runtime_cmpstring"], unfollowed := true, recurses := true, apart := false }
def EditsOnceSaid : Prop := editsOnceRow.holds Try.pinned (OpenSpec.ofChange editsOnceSpec)

/-- ITS FALSE NEIGHBOUR: 'it returns false'. Refute it at one input. -/
def editsOnceWrong : ChangeSpec := { name := "editsOnce", fn := fun _ => fun
  | [d1, d2] => { results := [.lit (.bool false)], args := [d1, d2] }
  | _ => none }
def EditsOnceWrongFalsely : Prop := editsOnceRow.holds Try.pinned (OpenSpec.ofChange editsOnceWrong)

/-- 'tephralaw10.EditsAll': WHATEVER THE INPUT: true; the input reads as it did. -/
def editsAllSpec : ChangeSpec := { name := "editsAll", fn := fun _ => fun
  | [d] => { results := [.lit (.bool true)], args := [d] }
  | _ => none }
def editsAllRow : OpenClaim := { program := "ytjlhookdigbjhaa", sum := "60d53e49e381470ef9e7353aad5d74e31cd66ed77ada558610c4af59e957c1c0", func := "tephra/tephralaw10.EditsAll", spec := "editsAll", inPlace := ["internal/bytealg.abigen_runtime_cmpstring"], unfollowed := true, recurses := true, apart := false }
def EditsAllSaid : Prop := editsAllRow.holds Try.pinned (OpenSpec.ofChange editsAllSpec)

/-- ITS FALSE NEIGHBOUR: 'it returns false'. Refute it at one input. -/
def editsAllWrong : ChangeSpec := { name := "editsAll", fn := fun _ => fun
  | [d] => { results := [.lit (.bool false)], args := [d] }
  | _ => none }
def EditsAllWrongFalsely : Prop := editsAllRow.holds Try.pinned (OpenSpec.ofChange editsAllWrong)

/-- 'tephralaw10.EditsBytes': WHATEVER THE INPUT: true; the input reads as it did. -/
def editsBytesSpec : ChangeSpec := { name := "editsBytes", fn := fun _ => fun
  | [d1, d2] => { results := [.lit (.bool true)], args := [d1, d2] }
  | _ => none }
def editsBytesRow : OpenClaim := { program := "ytjlhookdigbjhaa", sum := "60d53e49e381470ef9e7353aad5d74e31cd66ed77ada558610c4af59e957c1c0", func := "tephra/tephralaw10.EditsBytes", spec := "editsBytes", inPlace := ["internal/bytealg.abigen_runtime_cmpstring"], unfollowed := true, recurses := true, apart := false }
def EditsBytesSaid : Prop := editsBytesRow.holds Try.pinned (OpenSpec.ofChange editsBytesSpec)

/-- ITS FALSE NEIGHBOUR: 'it returns false'. Refute it at one input. -/
def editsBytesWrong : ChangeSpec := { name := "editsBytes", fn := fun _ => fun
  | [d1, d2] => { results := [.lit (.bool false)], args := [d1, d2] }
  | _ => none }
def EditsBytesWrongFalsely : Prop := editsBytesRow.holds Try.pinned (OpenSpec.ofChange editsBytesWrong)

/-- 'tephralaw10.EditsRead': WHATEVER THE INPUT: true; the input reads as it did. -/
def editsReadSpec : ChangeSpec := { name := "editsRead", fn := fun _ => fun
  | [d1, d2, d3, d4] => { results := [.lit (.bool true)], args := [d1, d2, d3, d4] }
  | _ => none }
def editsReadRow : OpenClaim := { program := "ytjlhookdigbjhaa", sum := "60d53e49e381470ef9e7353aad5d74e31cd66ed77ada558610c4af59e957c1c0", func := "tephra/tephralaw10.EditsRead", spec := "editsRead", inPlace := ["internal/bytealg.abigen_runtime_cmpstring"], unfollowed := true, recurses := true, apart := false }
def EditsReadSaid : Prop := editsReadRow.holds Try.pinned (OpenSpec.ofChange editsReadSpec)

/-- ITS FALSE NEIGHBOUR: 'it returns false'. Refute it at one input. -/
def editsReadWrong : ChangeSpec := { name := "editsRead", fn := fun _ => fun
  | [d1, d2, d3, d4] => { results := [.lit (.bool false)], args := [d1, d2, d3, d4] }
  | _ => none }
def EditsReadWrongFalsely : Prop := editsReadRow.holds Try.pinned (OpenSpec.ofChange editsReadWrong)

/-- 'tephralaw10.EditsDo': WHATEVER THE INPUT: true; the input reads as it did. -/
def editsDoSpec : ChangeSpec := { name := "editsDo", fn := fun _ => fun
  | [d] => { results := [.lit (.bool true)], args := [d] }
  | _ => none }
def editsDoRow : OpenClaim := { program := "ytjlhookdigbjhaa", sum := "60d53e49e381470ef9e7353aad5d74e31cd66ed77ada558610c4af59e957c1c0", func := "tephra/tephralaw10.EditsDo", spec := "editsDo", inPlace := ["internal/bytealg.abigen_runtime_cmpstring"], unfollowed := true, recurses := true, apart := false }
def EditsDoSaid : Prop := editsDoRow.holds Try.pinned (OpenSpec.ofChange editsDoSpec)

/-- ITS FALSE NEIGHBOUR: 'it returns false'. Refute it at one input. -/
def editsDoWrong : ChangeSpec := { name := "editsDo", fn := fun _ => fun
  | [d] => { results := [.lit (.bool false)], args := [d] }
  | _ => none }
def EditsDoWrongFalsely : Prop := editsDoRow.holds Try.pinned (OpenSpec.ofChange editsDoWrong)

/-- 'tephralaw10.EditsReplay': WHATEVER THE INPUT: true; the input reads as it did. -/
def editsReplaySpec : ChangeSpec := { name := "editsReplay", fn := fun _ => fun
  | [d1, d2, d3] => { results := [.lit (.bool true)], args := [d1, d2, d3] }
  | _ => none }
def editsReplayRow : OpenClaim := { program := "ytjlhookdigbjhaa", sum := "60d53e49e381470ef9e7353aad5d74e31cd66ed77ada558610c4af59e957c1c0", func := "tephra/tephralaw10.EditsReplay", spec := "editsReplay", inPlace := ["internal/bytealg.abigen_runtime_cmpstring"], unfollowed := true, recurses := true, apart := false }
def EditsReplaySaid : Prop := editsReplayRow.holds Try.pinned (OpenSpec.ofChange editsReplaySpec)

/-- ITS FALSE NEIGHBOUR: 'it returns false'. Refute it at one input. -/
def editsReplayWrong : ChangeSpec := { name := "editsReplay", fn := fun _ => fun
  | [d1, d2, d3] => { results := [.lit (.bool false)], args := [d1, d2, d3] }
  | _ => none }
def EditsReplayWrongFalsely : Prop := editsReplayRow.holds Try.pinned (OpenSpec.ofChange editsReplayWrong)

/- THE SECOND FORM. 'bulk': how many values and letters a reading holds, each counted each time it is reached (what is shared counts as often as it is met; a slice's spare places count too). A statement '..UptoSaid' is the law's where the arguments, and the package variables that the reading takes, are together of bulk at most 1048576: NARROWER than '..Said'. Prove '..Said' where nothing that the law and all that it calls make is longer than what came in: it says more and counts as full. Else prove '..UptoSaid'. A law counts once. -/
mutual
def uptoBulk {H : Type} : DataW H → Nat
  | .lit (.string bytes) => bytes.length + 1
  | .lit _ => 1
  | .nil => 1
  | .ptr d => uptoBulk d + 1
  | .slice elems spare => uptoBulkAll elems + uptoBulkAll spare + 1
  | .agg parts => uptoBulkAll parts + 1
  | .iface _ d => uptoBulk d + 1
  | .map entries => uptoBulkEntries entries + 1
  | .held _ => 1
def uptoBulkAll {H : Type} : List (DataW H) → Nat
  | [] => 0
  | d :: r => uptoBulk d + uptoBulkAll r
def uptoBulkEntries {H : Type} : List (Lit × DataW H) → Nat
  | [] => 0
  | x :: r => uptoBulkEntry x + uptoBulkEntries r
def uptoBulkEntry {H : Type} : Lit × DataW H → Nat
  | (.string bytes, d) => bytes.length + uptoBulk d + 1
  | (_, d) => uptoBulk d + 1
 end
def uptoSmall : (H : Type) → List (DataW H) → Bool := fun _ ds => decide (uptoBulkAll ds ≤ 1048576)
def OpenSpec.upto (s : _root_.Go.ChangeSpec) : _root_.Go.OpenSpec := { _root_.Go.OpenSpec.ofChange s with cond := some uptoSmall }

/-- 'tephralaw10.EditsMay', WHERE WHAT IT READS IS OF BULK AT MOST 1048576: true; the input reads as it did. -/
def editsMayUptoRow : OpenClaim := { program := "ytjlhookdigbjhaa", sum := "60d53e49e381470ef9e7353aad5d74e31cd66ed77ada558610c4af59e957c1c0", func := "tephra/tephralaw10.EditsMay", spec := "editsMay", inPlace := ["internal/bytealg.abigen_runtime_cmpstring"], unfollowed := true, recurses := true, apart := false, narrowed := true }
def EditsMayUptoSaid : Prop := editsMayUptoRow.holds Try.pinned (OpenSpec.upto editsMaySpec)

/-- 'tephralaw10.EditsFloor', WHERE WHAT IT READS IS OF BULK AT MOST 1048576: true; the input reads as it did. -/
def editsFloorUptoRow : OpenClaim := { program := "ytjlhookdigbjhaa", sum := "60d53e49e381470ef9e7353aad5d74e31cd66ed77ada558610c4af59e957c1c0", func := "tephra/tephralaw10.EditsFloor", spec := "editsFloor", inPlace := ["internal/bytealg.abigen_runtime_cmpstring"], unfollowed := true, recurses := true, apart := false, narrowed := true }
def EditsFloorUptoSaid : Prop := editsFloorUptoRow.holds Try.pinned (OpenSpec.upto editsFloorSpec)

/-- 'tephralaw10.EditsOnce', WHERE WHAT IT READS IS OF BULK AT MOST 1048576: true; the input reads as it did. -/
def editsOnceUptoRow : OpenClaim := { program := "ytjlhookdigbjhaa", sum := "60d53e49e381470ef9e7353aad5d74e31cd66ed77ada558610c4af59e957c1c0", func := "tephra/tephralaw10.EditsOnce", spec := "editsOnce", inPlace := ["internal/bytealg.abigen_runtime_cmpstring"], unfollowed := true, recurses := true, apart := false, narrowed := true }
def EditsOnceUptoSaid : Prop := editsOnceUptoRow.holds Try.pinned (OpenSpec.upto editsOnceSpec)

/-- 'tephralaw10.EditsAll', WHERE WHAT IT READS IS OF BULK AT MOST 1048576: true; the input reads as it did. -/
def editsAllUptoRow : OpenClaim := { program := "ytjlhookdigbjhaa", sum := "60d53e49e381470ef9e7353aad5d74e31cd66ed77ada558610c4af59e957c1c0", func := "tephra/tephralaw10.EditsAll", spec := "editsAll", inPlace := ["internal/bytealg.abigen_runtime_cmpstring"], unfollowed := true, recurses := true, apart := false, narrowed := true }
def EditsAllUptoSaid : Prop := editsAllUptoRow.holds Try.pinned (OpenSpec.upto editsAllSpec)

/-- 'tephralaw10.EditsBytes', WHERE WHAT IT READS IS OF BULK AT MOST 1048576: true; the input reads as it did. -/
def editsBytesUptoRow : OpenClaim := { program := "ytjlhookdigbjhaa", sum := "60d53e49e381470ef9e7353aad5d74e31cd66ed77ada558610c4af59e957c1c0", func := "tephra/tephralaw10.EditsBytes", spec := "editsBytes", inPlace := ["internal/bytealg.abigen_runtime_cmpstring"], unfollowed := true, recurses := true, apart := false, narrowed := true }
def EditsBytesUptoSaid : Prop := editsBytesUptoRow.holds Try.pinned (OpenSpec.upto editsBytesSpec)

/-- 'tephralaw10.EditsRead', WHERE WHAT IT READS IS OF BULK AT MOST 1048576: true; the input reads as it did. -/
def editsReadUptoRow : OpenClaim := { program := "ytjlhookdigbjhaa", sum := "60d53e49e381470ef9e7353aad5d74e31cd66ed77ada558610c4af59e957c1c0", func := "tephra/tephralaw10.EditsRead", spec := "editsRead", inPlace := ["internal/bytealg.abigen_runtime_cmpstring"], unfollowed := true, recurses := true, apart := false, narrowed := true }
def EditsReadUptoSaid : Prop := editsReadUptoRow.holds Try.pinned (OpenSpec.upto editsReadSpec)

/-- 'tephralaw10.EditsDo', WHERE WHAT IT READS IS OF BULK AT MOST 1048576: true; the input reads as it did. -/
def editsDoUptoRow : OpenClaim := { program := "ytjlhookdigbjhaa", sum := "60d53e49e381470ef9e7353aad5d74e31cd66ed77ada558610c4af59e957c1c0", func := "tephra/tephralaw10.EditsDo", spec := "editsDo", inPlace := ["internal/bytealg.abigen_runtime_cmpstring"], unfollowed := true, recurses := true, apart := false, narrowed := true }
def EditsDoUptoSaid : Prop := editsDoUptoRow.holds Try.pinned (OpenSpec.upto editsDoSpec)

/-- 'tephralaw10.EditsReplay', WHERE WHAT IT READS IS OF BULK AT MOST 1048576: true; the input reads as it did. -/
def editsReplayUptoRow : OpenClaim := { program := "ytjlhookdigbjhaa", sum := "60d53e49e381470ef9e7353aad5d74e31cd66ed77ada558610c4af59e957c1c0", func := "tephra/tephralaw10.EditsReplay", spec := "editsReplay", inPlace := ["internal/bytealg.abigen_runtime_cmpstring"], unfollowed := true, recurses := true, apart := false, narrowed := true }
def EditsReplayUptoSaid : Prop := editsReplayUptoRow.holds Try.pinned (OpenSpec.upto editsReplaySpec)

end Rows
end Go.Proofs.Ytjlhookdigbjhaa
