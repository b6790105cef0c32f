/-
  No cell of these rows narrows 'for every input' (looked for: loops, veiled, ifaces, maps, wideKeys, modest, calm, conditions, laid).
  DERIVED. THE GIVEN ROWS OF THIS SEAT. 10 by the template 'for every input the law returns true; each argument reads behind the call as it read before'; 0 by the template 'total and deterministic' (their statements: YtiijlkebolfcpaaTotals.lean).
  GIVEN WITH THE SEED: the statements are not yours to turn. If you find one false, say at which input.
  Laid BY PROGRAM, IN A SANDBOX (cutbox-rows.mjs): the forced cells as the released guide's own fill.sh prints them over the translation 149f995bde45727a… (all of the seat's roots in one cut). By AI agents, Wed Nov 11 2026. No macro, syntax, notation, axiom, sorry.
-/
import Derived.Test.YtiijlkebolfcpaaChecked
import GoSem.Claim
import GoSem.ClaimJoined
import GoSem.ClaimMapViews
import Derived.JoinedTies
import Derived.KernelRfl
namespace Go.Proofs.Ytiijlkebolfcpaa
/- THE CELL 'sum', in the pinned program and in every row, IS THE sha256 OF THE DUMP (.gsa) THAT YtiijlkebolfcpaaProg.lean LOADS. Nothing in Lean hashes anything: it is a label: what it is worth is what the hold of that sum in a sandbox is worth. -/
noncomputable def Try.pinned : Pinned := { name := "ytiijlkebolfcpaa", sum := "149f995bde45727a4f4554d4550100f546437ebd05b3fd8fb63cc3ffdaf2e36e", checked := Try.checked }
namespace Rows
def none {H : Type} : Left H := { results := [], args := [] }

/-- 'tephralaw18.ScriptActs': WHATEVER THE INPUT: true; the input reads as it did. -/
def scriptActsSpec : ChangeSpec := { name := "scriptActs", fn := fun _ => fun
  | [d] => { results := [.lit (.bool true)], args := [d] }
  | _ => none }
def scriptActsRow : OpenClaim := { program := "ytiijlkebolfcpaa", sum := "149f995bde45727a4f4554d4550100f546437ebd05b3fd8fb63cc3ffdaf2e36e", func := "tephra/tephralaw18.ScriptActs", spec := "scriptActs", apart := false }
def ScriptActsSaid : Prop := scriptActsRow.holds Try.pinned (OpenSpec.ofChange scriptActsSpec)

/-- ITS FALSE NEIGHBOUR: 'it returns false'. Refute it at one input. -/
def scriptActsWrong : ChangeSpec := { name := "scriptActs", fn := fun _ => fun
  | [d] => { results := [.lit (.bool false)], args := [d] }
  | _ => none }
def ScriptActsWrongFalsely : Prop := scriptActsRow.holds Try.pinned (OpenSpec.ofChange scriptActsWrong)

/-- 'tephralaw18.ScriptParts': WHATEVER THE INPUT: true; the input reads as it did. -/
def scriptPartsSpec : ChangeSpec := { name := "scriptParts", fn := fun _ => fun
  | [d1, d2] => { results := [.lit (.bool true)], args := [d1, d2] }
  | _ => none }
def scriptPartsRow : OpenClaim := { program := "ytiijlkebolfcpaa", sum := "149f995bde45727a4f4554d4550100f546437ebd05b3fd8fb63cc3ffdaf2e36e", func := "tephra/tephralaw18.ScriptParts", spec := "scriptParts", apart := false }
def ScriptPartsSaid : Prop := scriptPartsRow.holds Try.pinned (OpenSpec.ofChange scriptPartsSpec)

/-- ITS FALSE NEIGHBOUR: 'it returns false'. Refute it at one input. -/
def scriptPartsWrong : ChangeSpec := { name := "scriptParts", fn := fun _ => fun
  | [d1, d2] => { results := [.lit (.bool false)], args := [d1, d2] }
  | _ => none }
def ScriptPartsWrongFalsely : Prop := scriptPartsRow.holds Try.pinned (OpenSpec.ofChange scriptPartsWrong)

/-- 'tephralaw18.ScriptTail': WHATEVER THE INPUT: true; the input reads as it did. -/
def scriptTailSpec : ChangeSpec := { name := "scriptTail", fn := fun _ => fun
  | [d1, d2] => { results := [.lit (.bool true)], args := [d1, d2] }
  | _ => none }
def scriptTailRow : OpenClaim := { program := "ytiijlkebolfcpaa", sum := "149f995bde45727a4f4554d4550100f546437ebd05b3fd8fb63cc3ffdaf2e36e", func := "tephra/tephralaw18.ScriptTail", spec := "scriptTail", apart := false }
def ScriptTailSaid : Prop := scriptTailRow.holds Try.pinned (OpenSpec.ofChange scriptTailSpec)

/-- ITS FALSE NEIGHBOUR: 'it returns false'. Refute it at one input. -/
def scriptTailWrong : ChangeSpec := { name := "scriptTail", fn := fun _ => fun
  | [d1, d2] => { results := [.lit (.bool false)], args := [d1, d2] }
  | _ => none }
def ScriptTailWrongFalsely : Prop := scriptTailRow.holds Try.pinned (OpenSpec.ofChange scriptTailWrong)

/-- 'tephralaw18.ScriptKinds': WHATEVER THE INPUT: true; the input reads as it did. -/
def scriptKindsSpec : ChangeSpec := { name := "scriptKinds", fn := fun _ => fun
  | [d1, d2, d3, d4] => { results := [.lit (.bool true)], args := [d1, d2, d3, d4] }
  | _ => none }
def scriptKindsRow : OpenClaim := { program := "ytiijlkebolfcpaa", sum := "149f995bde45727a4f4554d4550100f546437ebd05b3fd8fb63cc3ffdaf2e36e", func := "tephra/tephralaw18.ScriptKinds", spec := "scriptKinds", apart := false }
def ScriptKindsSaid : Prop := scriptKindsRow.holds Try.pinned (OpenSpec.ofChange scriptKindsSpec)

/-- ITS FALSE NEIGHBOUR: 'it returns false'. Refute it at one input. -/
def scriptKindsWrong : ChangeSpec := { name := "scriptKinds", fn := fun _ => fun
  | [d1, d2, d3, d4] => { results := [.lit (.bool false)], args := [d1, d2, d3, d4] }
  | _ => none }
def ScriptKindsWrongFalsely : Prop := scriptKindsRow.holds Try.pinned (OpenSpec.ofChange scriptKindsWrong)

/-- 'tephralaw18.ScriptMay': WHATEVER THE INPUT: true; the input reads as it did. -/
def scriptMaySpec : ChangeSpec := { name := "scriptMay", fn := fun _ => fun
  | [d] => { results := [.lit (.bool true)], args := [d] }
  | _ => none }
def scriptMayRow : OpenClaim := { program := "ytiijlkebolfcpaa", sum := "149f995bde45727a4f4554d4550100f546437ebd05b3fd8fb63cc3ffdaf2e36e", func := "tephra/tephralaw18.ScriptMay", spec := "scriptMay", apart := false }
def ScriptMaySaid : Prop := scriptMayRow.holds Try.pinned (OpenSpec.ofChange scriptMaySpec)

/-- ITS FALSE NEIGHBOUR: 'it returns false'. Refute it at one input. -/
def scriptMayWrong : ChangeSpec := { name := "scriptMay", fn := fun _ => fun
  | [d] => { results := [.lit (.bool false)], args := [d] }
  | _ => none }
def ScriptMayWrongFalsely : Prop := scriptMayRow.holds Try.pinned (OpenSpec.ofChange scriptMayWrong)

/-- 'tephralaw15.NetScript': WHATEVER THE INPUT: true; the input reads as it did. -/
def netScriptSpec : ChangeSpec := { name := "netScript", fn := fun _ => fun
  | [d] => { results := [.lit (.bool true)], args := [d] }
  | _ => none }
def netScriptRow : OpenClaim := { program := "ytiijlkebolfcpaa", sum := "149f995bde45727a4f4554d4550100f546437ebd05b3fd8fb63cc3ffdaf2e36e", func := "tephra/tephralaw15.NetScript", spec := "netScript", unfollowed := true, recurses := true, apart := false }
def NetScriptSaid : Prop := netScriptRow.holds Try.pinned (OpenSpec.ofChange netScriptSpec)

/-- ITS FALSE NEIGHBOUR: 'it returns false'. Refute it at one input. -/
def netScriptWrong : ChangeSpec := { name := "netScript", fn := fun _ => fun
  | [d] => { results := [.lit (.bool false)], args := [d] }
  | _ => none }
def NetScriptWrongFalsely : Prop := netScriptRow.holds Try.pinned (OpenSpec.ofChange netScriptWrong)

/-- 'tephralaw15.NetOrder': WHATEVER THE INPUT: true; the input reads as it did. -/
def netOrderSpec : ChangeSpec := { name := "netOrder", fn := fun _ => fun
  | [d1, d2] => { results := [.lit (.bool true)], args := [d1, d2] }
  | _ => none }
def netOrderRow : OpenClaim := { program := "ytiijlkebolfcpaa", sum := "149f995bde45727a4f4554d4550100f546437ebd05b3fd8fb63cc3ffdaf2e36e", func := "tephra/tephralaw15.NetOrder", spec := "netOrder", unfollowed := true, recurses := true, apart := false }
def NetOrderSaid : Prop := netOrderRow.holds Try.pinned (OpenSpec.ofChange netOrderSpec)

/-- ITS FALSE NEIGHBOUR: 'it returns false'. Refute it at one input. -/
def netOrderWrong : ChangeSpec := { name := "netOrder", fn := fun _ => fun
  | [d1, d2] => { results := [.lit (.bool false)], args := [d1, d2] }
  | _ => none }
def NetOrderWrongFalsely : Prop := netOrderRow.holds Try.pinned (OpenSpec.ofChange netOrderWrong)

/-- 'tephralaw15.NetMost': WHATEVER THE INPUT: true; the input reads as it did. -/
def netMostSpec : ChangeSpec := { name := "netMost", fn := fun _ => fun
  | [d1, d2] => { results := [.lit (.bool true)], args := [d1, d2] }
  | _ => none }
def netMostRow : OpenClaim := { program := "ytiijlkebolfcpaa", sum := "149f995bde45727a4f4554d4550100f546437ebd05b3fd8fb63cc3ffdaf2e36e", func := "tephra/tephralaw15.NetMost", spec := "netMost", unfollowed := true, recurses := true, apart := false }
def NetMostSaid : Prop := netMostRow.holds Try.pinned (OpenSpec.ofChange netMostSpec)

/-- ITS FALSE NEIGHBOUR: 'it returns false'. Refute it at one input. -/
def netMostWrong : ChangeSpec := { name := "netMost", fn := fun _ => fun
  | [d1, d2] => { results := [.lit (.bool false)], args := [d1, d2] }
  | _ => none }
def NetMostWrongFalsely : Prop := netMostRow.holds Try.pinned (OpenSpec.ofChange netMostWrong)

/-- 'tephralaw15.NetTwice': WHATEVER THE INPUT: true; the input reads as it did. -/
def netTwiceSpec : ChangeSpec := { name := "netTwice", fn := fun _ => fun
  | [d1, d2] => { results := [.lit (.bool true)], args := [d1, d2] }
  | _ => none }
def netTwiceRow : OpenClaim := { program := "ytiijlkebolfcpaa", sum := "149f995bde45727a4f4554d4550100f546437ebd05b3fd8fb63cc3ffdaf2e36e", func := "tephra/tephralaw15.NetTwice", spec := "netTwice", unfollowed := true, recurses := true, apart := false }
def NetTwiceSaid : Prop := netTwiceRow.holds Try.pinned (OpenSpec.ofChange netTwiceSpec)

/-- ITS FALSE NEIGHBOUR: 'it returns false'. Refute it at one input. -/
def netTwiceWrong : ChangeSpec := { name := "netTwice", fn := fun _ => fun
  | [d1, d2] => { results := [.lit (.bool false)], args := [d1, d2] }
  | _ => none }
def NetTwiceWrongFalsely : Prop := netTwiceRow.holds Try.pinned (OpenSpec.ofChange netTwiceWrong)

/-- 'tephralaw15.NetGeneric': WHATEVER THE INPUT: true; the input reads as it did. -/
def netGenericSpec : ChangeSpec := { name := "netGeneric", fn := fun _ => fun
  | [d1, d2] => { results := [.lit (.bool true)], args := [d1, d2] }
  | _ => none }
def netGenericRow : OpenClaim := { program := "ytiijlkebolfcpaa", sum := "149f995bde45727a4f4554d4550100f546437ebd05b3fd8fb63cc3ffdaf2e36e", func := "tephra/tephralaw15.NetGeneric", spec := "netGeneric", unfollowed := true, recurses := true, apart := false }
def NetGenericSaid : Prop := netGenericRow.holds Try.pinned (OpenSpec.ofChange netGenericSpec)

/-- ITS FALSE NEIGHBOUR: 'it returns false'. Refute it at one input. -/
def netGenericWrong : ChangeSpec := { name := "netGeneric", fn := fun _ => fun
  | [d1, d2] => { results := [.lit (.bool false)], args := [d1, d2] }
  | _ => none }
def NetGenericWrongFalsely : Prop := netGenericRow.holds Try.pinned (OpenSpec.ofChange netGenericWrong)

/- THE SECOND FORM. 'bulk': how many values and letters a reading holds, each counted each time it is reached (what is shared counts as often as it is met; a slice's spare places count too). A statement '..UptoSaid' is the law's where the arguments, and the package variables that the reading takes, are together of bulk at most 1048576: NARROWER than '..Said'. Prove '..Said' where nothing that the law and all that it calls make is longer than what came in: it says more and counts as full. Else prove '..UptoSaid'. A law counts once. -/
mutual
def uptoBulk {H : Type} : DataW H → Nat
  | .lit (.string bytes) => bytes.length + 1
  | .lit _ => 1
  | .nil => 1
  | .ptr d => uptoBulk d + 1
  | .slice elems spare => uptoBulkAll elems + uptoBulkAll spare + 1
  | .agg parts => uptoBulkAll parts + 1
  | .iface _ d => uptoBulk d + 1
  | .map entries => uptoBulkEntries entries + 1
  | .held _ => 1
def uptoBulkAll {H : Type} : List (DataW H) → Nat
  | [] => 0
  | d :: r => uptoBulk d + uptoBulkAll r
def uptoBulkEntries {H : Type} : List (Lit × DataW H) → Nat
  | [] => 0
  | x :: r => uptoBulkEntry x + uptoBulkEntries r
def uptoBulkEntry {H : Type} : Lit × DataW H → Nat
  | (.string bytes, d) => bytes.length + uptoBulk d + 1
  | (_, d) => uptoBulk d + 1
 end
def uptoSmall : (H : Type) → List (DataW H) → Bool := fun _ ds => decide (uptoBulkAll ds ≤ 1048576)
def OpenSpec.upto (s : _root_.Go.ChangeSpec) : _root_.Go.OpenSpec := { _root_.Go.OpenSpec.ofChange s with cond := some uptoSmall }

/-- 'tephralaw18.ScriptActs', WHERE WHAT IT READS IS OF BULK AT MOST 1048576: true; the input reads as it did. -/
def scriptActsUptoRow : OpenClaim := { program := "ytiijlkebolfcpaa", sum := "149f995bde45727a4f4554d4550100f546437ebd05b3fd8fb63cc3ffdaf2e36e", func := "tephra/tephralaw18.ScriptActs", spec := "scriptActs", apart := false, narrowed := true }
def ScriptActsUptoSaid : Prop := scriptActsUptoRow.holds Try.pinned (OpenSpec.upto scriptActsSpec)

/-- 'tephralaw18.ScriptParts', WHERE WHAT IT READS IS OF BULK AT MOST 1048576: true; the input reads as it did. -/
def scriptPartsUptoRow : OpenClaim := { program := "ytiijlkebolfcpaa", sum := "149f995bde45727a4f4554d4550100f546437ebd05b3fd8fb63cc3ffdaf2e36e", func := "tephra/tephralaw18.ScriptParts", spec := "scriptParts", apart := false, narrowed := true }
def ScriptPartsUptoSaid : Prop := scriptPartsUptoRow.holds Try.pinned (OpenSpec.upto scriptPartsSpec)

/-- 'tephralaw18.ScriptTail', WHERE WHAT IT READS IS OF BULK AT MOST 1048576: true; the input reads as it did. -/
def scriptTailUptoRow : OpenClaim := { program := "ytiijlkebolfcpaa", sum := "149f995bde45727a4f4554d4550100f546437ebd05b3fd8fb63cc3ffdaf2e36e", func := "tephra/tephralaw18.ScriptTail", spec := "scriptTail", apart := false, narrowed := true }
def ScriptTailUptoSaid : Prop := scriptTailUptoRow.holds Try.pinned (OpenSpec.upto scriptTailSpec)

/-- 'tephralaw18.ScriptKinds', WHERE WHAT IT READS IS OF BULK AT MOST 1048576: true; the input reads as it did. -/
def scriptKindsUptoRow : OpenClaim := { program := "ytiijlkebolfcpaa", sum := "149f995bde45727a4f4554d4550100f546437ebd05b3fd8fb63cc3ffdaf2e36e", func := "tephra/tephralaw18.ScriptKinds", spec := "scriptKinds", apart := false, narrowed := true }
def ScriptKindsUptoSaid : Prop := scriptKindsUptoRow.holds Try.pinned (OpenSpec.upto scriptKindsSpec)

/-- 'tephralaw18.ScriptMay', WHERE WHAT IT READS IS OF BULK AT MOST 1048576: true; the input reads as it did. -/
def scriptMayUptoRow : OpenClaim := { program := "ytiijlkebolfcpaa", sum := "149f995bde45727a4f4554d4550100f546437ebd05b3fd8fb63cc3ffdaf2e36e", func := "tephra/tephralaw18.ScriptMay", spec := "scriptMay", apart := false, narrowed := true }
def ScriptMayUptoSaid : Prop := scriptMayUptoRow.holds Try.pinned (OpenSpec.upto scriptMaySpec)

/-- 'tephralaw15.NetScript', WHERE WHAT IT READS IS OF BULK AT MOST 1048576: true; the input reads as it did. -/
def netScriptUptoRow : OpenClaim := { program := "ytiijlkebolfcpaa", sum := "149f995bde45727a4f4554d4550100f546437ebd05b3fd8fb63cc3ffdaf2e36e", func := "tephra/tephralaw15.NetScript", spec := "netScript", unfollowed := true, recurses := true, apart := false, narrowed := true }
def NetScriptUptoSaid : Prop := netScriptUptoRow.holds Try.pinned (OpenSpec.upto netScriptSpec)

/-- 'tephralaw15.NetOrder', WHERE WHAT IT READS IS OF BULK AT MOST 1048576: true; the input reads as it did. -/
def netOrderUptoRow : OpenClaim := { program := "ytiijlkebolfcpaa", sum := "149f995bde45727a4f4554d4550100f546437ebd05b3fd8fb63cc3ffdaf2e36e", func := "tephra/tephralaw15.NetOrder", spec := "netOrder", unfollowed := true, recurses := true, apart := false, narrowed := true }
def NetOrderUptoSaid : Prop := netOrderUptoRow.holds Try.pinned (OpenSpec.upto netOrderSpec)

/-- 'tephralaw15.NetMost', WHERE WHAT IT READS IS OF BULK AT MOST 1048576: true; the input reads as it did. -/
def netMostUptoRow : OpenClaim := { program := "ytiijlkebolfcpaa", sum := "149f995bde45727a4f4554d4550100f546437ebd05b3fd8fb63cc3ffdaf2e36e", func := "tephra/tephralaw15.NetMost", spec := "netMost", unfollowed := true, recurses := true, apart := false, narrowed := true }
def NetMostUptoSaid : Prop := netMostUptoRow.holds Try.pinned (OpenSpec.upto netMostSpec)

/-- 'tephralaw15.NetTwice', WHERE WHAT IT READS IS OF BULK AT MOST 1048576: true; the input reads as it did. -/
def netTwiceUptoRow : OpenClaim := { program := "ytiijlkebolfcpaa", sum := "149f995bde45727a4f4554d4550100f546437ebd05b3fd8fb63cc3ffdaf2e36e", func := "tephra/tephralaw15.NetTwice", spec := "netTwice", unfollowed := true, recurses := true, apart := false, narrowed := true }
def NetTwiceUptoSaid : Prop := netTwiceUptoRow.holds Try.pinned (OpenSpec.upto netTwiceSpec)

/-- 'tephralaw15.NetGeneric', WHERE WHAT IT READS IS OF BULK AT MOST 1048576: true; the input reads as it did. -/
def netGenericUptoRow : OpenClaim := { program := "ytiijlkebolfcpaa", sum := "149f995bde45727a4f4554d4550100f546437ebd05b3fd8fb63cc3ffdaf2e36e", func := "tephra/tephralaw15.NetGeneric", spec := "netGeneric", unfollowed := true, recurses := true, apart := false, narrowed := true }
def NetGenericUptoSaid : Prop := netGenericUptoRow.holds Try.pinned (OpenSpec.upto netGenericSpec)

end Rows
end Go.Proofs.Ytiijlkebolfcpaa
