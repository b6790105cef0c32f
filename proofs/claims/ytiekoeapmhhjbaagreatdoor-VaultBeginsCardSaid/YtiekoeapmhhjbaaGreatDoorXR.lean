/- Rows: what the arguments are; where the variables lie; a witness. -/
import Derived.Test.YtiekoeapmhhjbaaGreatDoorRows
import Derived.Test.YtiekoeapmhhjbaaGreatDoorSxR
import Derived.Lib.LaidU8
import Derived.MakeChecks
import Derived.LaidLaws
import Derived.Test.YtiekoeapmhhjbaaGreatDoorMH
import Derived.Deep.DeepHandedRow
import Derived.Lay
namespace Go.Proofs.YtiekoeapmhhjbaaGreatDoor.XR
open Go Go.RowKit Go.Lib Go.ChangeShapes Go.WideShapes Go.ChangeAt Go.Proofs.YtiekoeapmhhjbaaGreatDoor.Sx
set_option linter.unusedVariables false
set_option linter.unusedSimpArgs false
theorem i8 {P : Program} {W : World} {t : TypeId} (ht : P.underlying t = some (.int .i8)) {H : Type} (enc : TypeId × Value → H) (sp : Nat → Bool) (hd : Bool) (fuel : Nat) (cs : List Value) (x : DataW H × List MemPlace) (h : DataW.trod enc P W 0 sp hd fuel t cs = some x) : ∃ a : Int, cs = [.int .i8 a] ∧ (-128 ≤ a ∧ a < 128) := by
  obtain ⟨n, rfl, _, hw⟩ := DataW.trod_int ht h
  exact ⟨n, rfl, i8_of hw⟩
theorem u8 {P : Program} {W : World} {t : TypeId} (ht : P.underlying t = some (.int .u8)) {H : Type} (enc : TypeId × Value → H) (sp : Nat → Bool) (hd : Bool) (fuel : Nat) (cs : List Value) (x : DataW H × List MemPlace) (h : DataW.trod enc P W 0 sp hd fuel t cs = some x) : ∃ a : Int, cs = [.int .u8 a] ∧ (0 ≤ a ∧ a < 256) := by
  obtain ⟨n, rfl, _, hw⟩ := DataW.trod_int ht h
  exact ⟨n, rfl, u8_of hw⟩
theorem h6 {W : World} (hL : laidMetH Tryz.prog Rows.vaultBeginsRow.laid W) : 6 ≤ W.heap.size := by
  rw [MakeChecks.laidMetH_plain _ _ _ (by kernel_rfl)] at hL
  obtain ⟨g, t, cs, fuel, p, hg, hty, hvar, hd⟩ := laidMet.reads hL (n := "math/bits.deBruijn64tab") (.tail _ (.head _))
  have hg5 : Tryz.prog.globalNamed "math/bits.deBruijn64tab" = some 5 := by kernel_rfl
  unfold World.var? at hvar
  rw [hg5] at hvar
  have hvar : (match W.heap[5]? with
    | some (Obj.cells cs _ _) => some cs
    | _ => none) = some cs := hvar
  cases hh : W.heap[5]? with
  | none => rw [hh] at hvar; cases hvar
  | some o =>
    have := (Array.getElem?_eq_some_iff.1 hh).1
    omega
theorem one_cell {W : World} {n : String} {g ti : Nat} {ms : Array (String × TypeId)} {nm : String} {d : DataW Unit} (hr : VarReads Tryz.prog W n (.iface nm d)) (hg : Tryz.prog.globalNamed n = some g) (ht : (Tryz.prog.globals[g]?).map (·.type) = some ti) (hi : Tryz.prog.underlying ti = some (.interface ms)) :
    ∃ A T fr y, W.heap[g]? = some (.cells A T fr) ∧ A[0]? = some y ∧ y.oneCell' = true := by
  obtain ⟨g', t, cs, fuel, p, hg', hty, hvar, hd⟩ := hr
  rw [hg] at hg'
  cases hg'
  rw [ht] at hty
  cases hty
  obtain ⟨_, u, v, hcs, _⟩ := iface_of_trod hi hd
  unfold World.var? at hvar
  rw [hg] at hvar
  have hvar : (match W.heap[g]? with
    | some (Obj.cells cs _ _) => some cs
    | _ => none) = some cs := hvar
  cases hh : W.heap[g]? with
  | none => rw [hh] at hvar; cases hvar
  | some o =>
    rw [hh] at hvar
    cases o with
    | cells A T fr =>
      cases hvar
      refine ⟨_, _, _, .iface u v, rfl, ?_, rfl⟩
      rw [← Array.getElem?_toList, hcs]
      rfl
    | _ => cases hvar
theorem start {W : World} (hL : laidMetH Tryz.prog Rows.vaultBeginsRow.laid W) : X.Start W := by
  refine ⟨h6 hL, fun g hg => ?_⟩
  rw [MakeChecks.laidMetH_plain _ _ _ (by kernel_rfl)] at hL
  have h : g = 0 ∨ g = 1 := by omega
  rcases h with rfl | rfl
  · exact one_cell (ti := 235) (laidMet.reads hL (n := "strconv.ErrSyntax") (.tail _ (.tail _ (.tail _ (.tail _ (.head _)))))) (by kernel_rfl) (by kernel_rfl) Tryz.underlying235
  · exact one_cell (ti := 235) (laidMet.reads hL (n := "strconv.ErrRange") (.tail _ (.tail _ (.tail _ (.head _))))) (by kernel_rfl) (by kernel_rfl) Tryz.underlying235
theorem witness_row_shaped {H : Type} {enc : TypeId × Value → H} {C : Checked} {os : Os} {f : FuncId} {fn : Func} {s : OpenSpec} {conds : List PathCond} {apart : Bool} {laid : List (String × DataW Unit)} (modest : Bool) (w0 : World) (args : Array Value) (hos : w0.os = os)
    (hsh : (w0.forCall (fun _ _ => 0) ⟨#[], args, []⟩).Shaped C.prog)
    (hok : Input.okWideB C.prog (w0.forCall (fun _ _ => 0) ⟨#[], args, []⟩) f ⟨#[], args, []⟩ = true)
    (hrow : s.preRow enc C.prog fn conds apart laid (w0.forCall (fun _ _ => 0) ⟨#[], args, []⟩).memory args) :
    ∃ (w : World) (tape : Tape) (i : Input), w.os = os ∧ (w.forCall tape i).Shaped C.prog ∧ i.vars = [] ∧ Input.okWide C.prog (w.forCall tape i) .any w.heap.size f i ∧
      s.preRow enc C.prog fn conds apart laid (w.forCall tape i).memory i.args ∧ ({ modest := modest } : Assume).holds C.prog (lone (Frame.enter C.prog f i.args .normal) [] (w.forCall tape i)) :=
  ⟨w0, fun _ _ => 0, ⟨#[], args, []⟩, hos, hsh, (Input.okWide_of_okWideB (base := 0) hok).1, (Input.okWide_of_okWideB hok).2, hrow, by
    simp only [Assume.holds]
    exact ⟨by simp, by simp, fun _ => Modest.zero, by simp, by simp⟩⟩
end Go.Proofs.YtiekoeapmhhjbaaGreatDoor.XR
