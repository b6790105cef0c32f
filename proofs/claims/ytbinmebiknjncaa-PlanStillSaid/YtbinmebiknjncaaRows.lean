/-
  No cell of these rows narrows 'for every input' (looked for: loops, veiled, ifaces, maps, wideKeys, modest, calm, conditions, laid).
  DERIVED. THE GIVEN ROWS OF THIS SEAT. 7 by the template 'for every input the law returns true; each argument reads behind the call as it read before'; 0 by the template 'total and deterministic' (their statements: YtbinmebiknjncaaTotals.lean).
  GIVEN WITH THE SEED: the statements are not yours to turn. If you find one false, say at which input.
  Laid BY PROGRAM, IN A SANDBOX (cutbox-rows.mjs): the forced cells as the released guide's own fill.sh prints them over the translation 92dfd1784ce62b8d… (all of the seat's roots in one cut). By AI agents, Wed Nov 11 2026. No macro, syntax, notation, axiom, sorry.
-/
import Derived.Test.YtbinmebiknjncaaChecked
import GoSem.Claim
import GoSem.ClaimJoined
import GoSem.ClaimMapViews
import Derived.JoinedTies
import Derived.KernelRfl
namespace Go.Proofs.Ytbinmebiknjncaa
/- THE CELL 'sum', in the pinned program and in every row, IS THE sha256 OF THE DUMP (.gsa) THAT YtbinmebiknjncaaProg.lean LOADS. Nothing in Lean hashes anything: it is a label: what it is worth is what the hold of that sum in a sandbox is worth. -/
noncomputable def Try.pinned : Pinned := { name := "ytbinmebiknjncaa", sum := "92dfd1784ce62b8dcc897a4c414b5179aa84cfa081cfcd752149beb890ebcfce", checked := Try.checked }
namespace Rows
def none {H : Type} : Left H := { results := [], args := [] }

/-- 'tephralaw11.PlanOf': WHATEVER THE INPUT: true; the input reads as it did. -/
def planOfSpec : ChangeSpec := { name := "planOf", fn := fun _ => fun
  | [d1, d2, d3, d4] => { results := [.lit (.bool true)], args := [d1, d2, d3, d4] }
  | _ => none }
def planOfRow : OpenClaim := { program := "ytbinmebiknjncaa", sum := "92dfd1784ce62b8dcc897a4c414b5179aa84cfa081cfcd752149beb890ebcfce", func := "tephra/tephralaw11.PlanOf", spec := "planOf", unfollowed := true, recurses := true, apart := false }
def PlanOfSaid : Prop := planOfRow.holds Try.pinned (OpenSpec.ofChange planOfSpec)

/-- ITS FALSE NEIGHBOUR: 'it returns false'. Refute it at one input. -/
def planOfWrong : ChangeSpec := { name := "planOf", fn := fun _ => fun
  | [d1, d2, d3, d4] => { results := [.lit (.bool false)], args := [d1, d2, d3, d4] }
  | _ => none }
def PlanOfWrongFalsely : Prop := planOfRow.holds Try.pinned (OpenSpec.ofChange planOfWrong)

/-- 'tephralaw11.PlanLeads': WHATEVER THE INPUT: true; the input reads as it did. -/
def planLeadsSpec : ChangeSpec := { name := "planLeads", fn := fun _ => fun
  | [d1, d2, d3, d4] => { results := [.lit (.bool true)], args := [d1, d2, d3, d4] }
  | _ => none }
def planLeadsRow : OpenClaim := { program := "ytbinmebiknjncaa", sum := "92dfd1784ce62b8dcc897a4c414b5179aa84cfa081cfcd752149beb890ebcfce", func := "tephra/tephralaw11.PlanLeads", spec := "planLeads", unfollowed := true, recurses := true, apart := false }
def PlanLeadsSaid : Prop := planLeadsRow.holds Try.pinned (OpenSpec.ofChange planLeadsSpec)

/-- ITS FALSE NEIGHBOUR: 'it returns false'. Refute it at one input. -/
def planLeadsWrong : ChangeSpec := { name := "planLeads", fn := fun _ => fun
  | [d1, d2, d3, d4] => { results := [.lit (.bool false)], args := [d1, d2, d3, d4] }
  | _ => none }
def PlanLeadsWrongFalsely : Prop := planLeadsRow.holds Try.pinned (OpenSpec.ofChange planLeadsWrong)

/-- 'tephralaw11.PlanNone': WHATEVER THE INPUT: true; the input reads as it did. -/
def planNoneSpec : ChangeSpec := { name := "planNone", fn := fun _ => fun
  | [d1, d2, d3] => { results := [.lit (.bool true)], args := [d1, d2, d3] }
  | _ => none }
def planNoneRow : OpenClaim := { program := "ytbinmebiknjncaa", sum := "92dfd1784ce62b8dcc897a4c414b5179aa84cfa081cfcd752149beb890ebcfce", func := "tephra/tephralaw11.PlanNone", spec := "planNone", unfollowed := true, recurses := true, apart := false }
def PlanNoneSaid : Prop := planNoneRow.holds Try.pinned (OpenSpec.ofChange planNoneSpec)

/-- ITS FALSE NEIGHBOUR: 'it returns false'. Refute it at one input. -/
def planNoneWrong : ChangeSpec := { name := "planNone", fn := fun _ => fun
  | [d1, d2, d3] => { results := [.lit (.bool false)], args := [d1, d2, d3] }
  | _ => none }
def PlanNoneWrongFalsely : Prop := planNoneRow.holds Try.pinned (OpenSpec.ofChange planNoneWrong)

/-- 'tephralaw11.PlanFloor': WHATEVER THE INPUT: true; the input reads as it did. -/
def planFloorSpec : ChangeSpec := { name := "planFloor", fn := fun _ => fun
  | [d1, d2, d3, d4, d5] => { results := [.lit (.bool true)], args := [d1, d2, d3, d4, d5] }
  | _ => none }
def planFloorRow : OpenClaim := { program := "ytbinmebiknjncaa", sum := "92dfd1784ce62b8dcc897a4c414b5179aa84cfa081cfcd752149beb890ebcfce", func := "tephra/tephralaw11.PlanFloor", spec := "planFloor", unfollowed := true, recurses := true, apart := false }
def PlanFloorSaid : Prop := planFloorRow.holds Try.pinned (OpenSpec.ofChange planFloorSpec)

/-- ITS FALSE NEIGHBOUR: 'it returns false'. Refute it at one input. -/
def planFloorWrong : ChangeSpec := { name := "planFloor", fn := fun _ => fun
  | [d1, d2, d3, d4, d5] => { results := [.lit (.bool false)], args := [d1, d2, d3, d4, d5] }
  | _ => none }
def PlanFloorWrongFalsely : Prop := planFloorRow.holds Try.pinned (OpenSpec.ofChange planFloorWrong)

/-- 'tephralaw11.PlanPair': WHATEVER THE INPUT: true; the input reads as it did. -/
def planPairSpec : ChangeSpec := { name := "planPair", fn := fun _ => fun
  | [d] => { results := [.lit (.bool true)], args := [d] }
  | _ => none }
def planPairRow : OpenClaim := { program := "ytbinmebiknjncaa", sum := "92dfd1784ce62b8dcc897a4c414b5179aa84cfa081cfcd752149beb890ebcfce", func := "tephra/tephralaw11.PlanPair", spec := "planPair", unfollowed := true, recurses := true, apart := false }
def PlanPairSaid : Prop := planPairRow.holds Try.pinned (OpenSpec.ofChange planPairSpec)

/-- ITS FALSE NEIGHBOUR: 'it returns false'. Refute it at one input. -/
def planPairWrong : ChangeSpec := { name := "planPair", fn := fun _ => fun
  | [d] => { results := [.lit (.bool false)], args := [d] }
  | _ => none }
def PlanPairWrongFalsely : Prop := planPairRow.holds Try.pinned (OpenSpec.ofChange planPairWrong)

/-- 'tephralaw11.PlanUnneeded': WHATEVER THE INPUT: true; the input reads as it did. -/
def planUnneededSpec : ChangeSpec := { name := "planUnneeded", fn := fun _ => fun
  | [d1, d2, d3] => { results := [.lit (.bool true)], args := [d1, d2, d3] }
  | _ => none }
def planUnneededRow : OpenClaim := { program := "ytbinmebiknjncaa", sum := "92dfd1784ce62b8dcc897a4c414b5179aa84cfa081cfcd752149beb890ebcfce", func := "tephra/tephralaw11.PlanUnneeded", spec := "planUnneeded", unfollowed := true, recurses := true, apart := false }
def PlanUnneededSaid : Prop := planUnneededRow.holds Try.pinned (OpenSpec.ofChange planUnneededSpec)

/-- ITS FALSE NEIGHBOUR: 'it returns false'. Refute it at one input. -/
def planUnneededWrong : ChangeSpec := { name := "planUnneeded", fn := fun _ => fun
  | [d1, d2, d3] => { results := [.lit (.bool false)], args := [d1, d2, d3] }
  | _ => none }
def PlanUnneededWrongFalsely : Prop := planUnneededRow.holds Try.pinned (OpenSpec.ofChange planUnneededWrong)

/-- 'tephralaw11.PlanStill': WHATEVER THE INPUT: true; the input reads as it did. -/
def planStillSpec : ChangeSpec := { name := "planStill", fn := fun _ => fun
  | [d1, d2, d3, d4] => { results := [.lit (.bool true)], args := [d1, d2, d3, d4] }
  | _ => none }
def planStillRow : OpenClaim := { program := "ytbinmebiknjncaa", sum := "92dfd1784ce62b8dcc897a4c414b5179aa84cfa081cfcd752149beb890ebcfce", func := "tephra/tephralaw11.PlanStill", spec := "planStill", inPlace := ["internal/bytealg.abigen_runtime_cmpstring"], unfollowed := true, recurses := true, apart := false }
def PlanStillSaid : Prop := planStillRow.holds Try.pinned (OpenSpec.ofChange planStillSpec)

/-- ITS FALSE NEIGHBOUR: 'it returns false'. Refute it at one input. -/
def planStillWrong : ChangeSpec := { name := "planStill", fn := fun _ => fun
  | [d1, d2, d3, d4] => { results := [.lit (.bool false)], args := [d1, d2, d3, d4] }
  | _ => none }
def PlanStillWrongFalsely : Prop := planStillRow.holds Try.pinned (OpenSpec.ofChange planStillWrong)

/- THE SECOND FORM. 'bulk': how many values and letters a reading holds, each counted each time it is reached (what is shared counts as often as it is met; a slice's spare places count too). A statement '..UptoSaid' is the law's where the arguments, and the package variables that the reading takes, are together of bulk at most 1048576: NARROWER than '..Said'. Prove '..Said' where nothing that the law and all that it calls make is longer than what came in: it says more and counts as full. Else prove '..UptoSaid'. A law counts once. -/
mutual
def uptoBulk {H : Type} : DataW H → Nat
  | .lit (.string bytes) => bytes.length + 1
  | .lit _ => 1
  | .nil => 1
  | .ptr d => uptoBulk d + 1
  | .slice elems spare => uptoBulkAll elems + uptoBulkAll spare + 1
  | .agg parts => uptoBulkAll parts + 1
  | .iface _ d => uptoBulk d + 1
  | .map entries => uptoBulkEntries entries + 1
  | .held _ => 1
def uptoBulkAll {H : Type} : List (DataW H) → Nat
  | [] => 0
  | d :: r => uptoBulk d + uptoBulkAll r
def uptoBulkEntries {H : Type} : List (Lit × DataW H) → Nat
  | [] => 0
  | x :: r => uptoBulkEntry x + uptoBulkEntries r
def uptoBulkEntry {H : Type} : Lit × DataW H → Nat
  | (.string bytes, d) => bytes.length + uptoBulk d + 1
  | (_, d) => uptoBulk d + 1
 end
def uptoSmall : (H : Type) → List (DataW H) → Bool := fun _ ds => decide (uptoBulkAll ds ≤ 1048576)
def OpenSpec.upto (s : _root_.Go.ChangeSpec) : _root_.Go.OpenSpec := { _root_.Go.OpenSpec.ofChange s with cond := some uptoSmall }

/-- 'tephralaw11.PlanOf', WHERE WHAT IT READS IS OF BULK AT MOST 1048576: true; the input reads as it did. -/
def planOfUptoRow : OpenClaim := { program := "ytbinmebiknjncaa", sum := "92dfd1784ce62b8dcc897a4c414b5179aa84cfa081cfcd752149beb890ebcfce", func := "tephra/tephralaw11.PlanOf", spec := "planOf", unfollowed := true, recurses := true, apart := false, narrowed := true }
def PlanOfUptoSaid : Prop := planOfUptoRow.holds Try.pinned (OpenSpec.upto planOfSpec)

/-- 'tephralaw11.PlanLeads', WHERE WHAT IT READS IS OF BULK AT MOST 1048576: true; the input reads as it did. -/
def planLeadsUptoRow : OpenClaim := { program := "ytbinmebiknjncaa", sum := "92dfd1784ce62b8dcc897a4c414b5179aa84cfa081cfcd752149beb890ebcfce", func := "tephra/tephralaw11.PlanLeads", spec := "planLeads", unfollowed := true, recurses := true, apart := false, narrowed := true }
def PlanLeadsUptoSaid : Prop := planLeadsUptoRow.holds Try.pinned (OpenSpec.upto planLeadsSpec)

/-- 'tephralaw11.PlanNone', WHERE WHAT IT READS IS OF BULK AT MOST 1048576: true; the input reads as it did. -/
def planNoneUptoRow : OpenClaim := { program := "ytbinmebiknjncaa", sum := "92dfd1784ce62b8dcc897a4c414b5179aa84cfa081cfcd752149beb890ebcfce", func := "tephra/tephralaw11.PlanNone", spec := "planNone", unfollowed := true, recurses := true, apart := false, narrowed := true }
def PlanNoneUptoSaid : Prop := planNoneUptoRow.holds Try.pinned (OpenSpec.upto planNoneSpec)

/-- 'tephralaw11.PlanFloor', WHERE WHAT IT READS IS OF BULK AT MOST 1048576: true; the input reads as it did. -/
def planFloorUptoRow : OpenClaim := { program := "ytbinmebiknjncaa", sum := "92dfd1784ce62b8dcc897a4c414b5179aa84cfa081cfcd752149beb890ebcfce", func := "tephra/tephralaw11.PlanFloor", spec := "planFloor", unfollowed := true, recurses := true, apart := false, narrowed := true }
def PlanFloorUptoSaid : Prop := planFloorUptoRow.holds Try.pinned (OpenSpec.upto planFloorSpec)

/-- 'tephralaw11.PlanPair', WHERE WHAT IT READS IS OF BULK AT MOST 1048576: true; the input reads as it did. -/
def planPairUptoRow : OpenClaim := { program := "ytbinmebiknjncaa", sum := "92dfd1784ce62b8dcc897a4c414b5179aa84cfa081cfcd752149beb890ebcfce", func := "tephra/tephralaw11.PlanPair", spec := "planPair", unfollowed := true, recurses := true, apart := false, narrowed := true }
def PlanPairUptoSaid : Prop := planPairUptoRow.holds Try.pinned (OpenSpec.upto planPairSpec)

/-- 'tephralaw11.PlanUnneeded', WHERE WHAT IT READS IS OF BULK AT MOST 1048576: true; the input reads as it did. -/
def planUnneededUptoRow : OpenClaim := { program := "ytbinmebiknjncaa", sum := "92dfd1784ce62b8dcc897a4c414b5179aa84cfa081cfcd752149beb890ebcfce", func := "tephra/tephralaw11.PlanUnneeded", spec := "planUnneeded", unfollowed := true, recurses := true, apart := false, narrowed := true }
def PlanUnneededUptoSaid : Prop := planUnneededUptoRow.holds Try.pinned (OpenSpec.upto planUnneededSpec)

/-- 'tephralaw11.PlanStill', WHERE WHAT IT READS IS OF BULK AT MOST 1048576: true; the input reads as it did. -/
def planStillUptoRow : OpenClaim := { program := "ytbinmebiknjncaa", sum := "92dfd1784ce62b8dcc897a4c414b5179aa84cfa081cfcd752149beb890ebcfce", func := "tephra/tephralaw11.PlanStill", spec := "planStill", inPlace := ["internal/bytealg.abigen_runtime_cmpstring"], unfollowed := true, recurses := true, apart := false, narrowed := true }
def PlanStillUptoSaid : Prop := planStillUptoRow.holds Try.pinned (OpenSpec.upto planStillSpec)

end Rows
end Go.Proofs.Ytbinmebiknjncaa
