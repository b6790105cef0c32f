/- Proves WorldSmallCardSaid, the tied card: the law WorldSmall returns true at every input, never panics, and every argument reads behind the call as before. Conditions: none beside the statement (the listed tables of the library's are tied to the program's text by the given tie). -/
import Derived.Deep.DeepHandedRow
import Derived.Lay
import Derived.LaidOnce
import Derived.SevenTiedAt
import Derived.Test.YtiekoeapmhhjbaaGreatDoorRows
import Derived.Test.YtiekoeapmhhjbaaGreatDoorCards
import Derived.Test.YtiekoeapmhhjbaaGreatDoorTie
import Derived.Test.YtiekoeapmhhjbaaGreatDoorWS
import Derived.Test.YtiekoeapmhhjbaaGreatDoorXR
import Derived.Test.YtiekoeapmhhjbaaGreatDoorWorldSmallF
import Derived.Test.YtiekoeapmhhjbaaGreatDoorSxR
namespace Go.Proofs.YtiekoeapmhhjbaaGreatDoor.worldSmall
open Go Go.ChangeShapes Go.WideShapes Go.ChangeAt Go.RowKit
open Go.Proofs.YtiekoeapmhhjbaaGreatDoor.Sx
set_option linter.unusedVariables false
theorem own : ownKnob Tryz.prog.godebug = none := by kernel_rfl
theorem laidOut : laidOutB Tryz.prog = true := by kernel_rfl
set_option maxRecDepth 100000 in
set_option maxHeartbeats 2000000 in
theorem contract (H : Type) (enc : TypeId × Value → H) (W : World) (base : Nat) (args : Array Value) (ds gs : List (DataW H)) (before : List MemPlace)
    (hval : ∀ (j : Nat) t v, Tryz.f5.params[j]? = some t → args[j]? = some v → Value.okWide Tryz.prog W .any base t v)
    (hW : DataW.Whole enc Tryz.prog Tryz.f5.params.toList Rows.worldSmallSpec.vars false W args.toList ds gs before) (hL : laidMetH Tryz.prog Rows.worldSmallRow.laid W) :
    Calls Tryz.prog 5 args W fun e W' => ∃ v, e = .returned v ∧ Rows.worldSmallSpec.post enc Tryz.prog Tryz.f5 false true false false W args v W' := by
  have hW' := hW
  obtain ⟨p, q, hA0, hV, rfl, hfz, hnd⟩ := hW
  have hA : DataW.TrodAll enc Tryz.prog W 0 (fun _ => true) true Tryz.f5.params.toList args.toList ds p := hA0
  rw [Tryz.params5] at hA hval
  obtain ⟨v0, vs0, d0, ds0, p0, q0, hargs, rfl, rfl, h0, r0⟩ := trodAll_cons hA
  obtain ⟨rfl, rfl, rfl⟩ := trodAll_nil r0
  obtain rfl : args = #[v0] := by cases args; simp_all
  obtain ⟨rfl, rfl⟩ := trodVars_none hV
  have k0 := h0
  have lt0 : ∀ x ∈ p0, x.block < W.heap.size := by obtain ⟨m, hm⟩ := k0; exact DataW.trod_lt m _ _ _ hm
  have hv0 := hval 0 84 v0 rfl rfl
  obtain ⟨x0, rfl⟩ := okWide_int Tryz.underlying84 hv0
  obtain ⟨m0, hm0⟩ := h0
  obtain ⟨a0, e0, w0⟩ := (XR.i8 Tryz.underlying84) _ _ _ _ _ _ hm0
  obtain rfl := (Value.int.inj (List.cons.inj e0).1).2
  have hc : Calls Tryz.prog 5 #[.int .i8 x0] W fun x W' => x = .returned (.bool true) ∧ Below W.heap.size W W' := X.worldSmall_calls (XR.h6 hL) x0 w0.1 w0.2
  refine hc.mono fun e W' hx => ?_
  obtain ⟨he, bel⟩ := hx
  subst he
  exact ⟨_, rfl, _, _, _, [], _, [], hW', trodAll_mk1 (shut_bool Tryz.underlying4 _), (trodAll_cons_mk (Below.trod laidOut (by kernel_rfl) (of_decide_eq_true (by kernel_rfl)) k0 bel lt0) trodAll_mk0), rfl, bel.frame _, fun h => by cases h⟩
theorem laid_met (os : Os) : laidMetH Tryz.prog Rows.worldSmallRow.laid ((World.laidAll Tryz.prog os Rows.worldSmallRow.laid).forCall (fun _ _ => 0) ⟨#[], #[.int .i8 0], []⟩).memory := by
  rw [MakeChecks.laidMetH_plain _ _ _ (by kernel_rfl)]
  exact laidMet_laidAll _ (by kernel_rfl) (by kernel_rfl)
theorem reads (os : Os) {H : Type} (enc : TypeId × Value → H) : ∃ places, DataW.whole enc Tryz.prog ((World.laidAll Tryz.prog os Rows.worldSmallRow.laid).forCall (fun _ _ => 0) ⟨#[], #[.int .i8 0], []⟩).memory Tryz.f5.params.toList Rows.worldSmallSpec.vars false #[(.int .i8 0 : Value)].toList 8 = some ([.lit (.int .i8 0)], [], places) :=
  ⟨[], by kernel_rfl⟩
set_option maxRecDepth 100000 in
theorem lifted (os : Os) (started : os.Started) (H : Type) (enc : TypeId × Value → H) (F : Stop.Interp) :
    ReturnsInHanded {} Tryz.checked os 5 .any ((OpenSpec.ofChange Rows.worldSmallSpec).preRow enc Tryz.prog Tryz.f5 Rows.worldSmallRow.domain false Rows.worldSmallRow.laid) (((OpenSpec.ofChange Rows.worldSmallSpec).at F).post enc Tryz.prog Tryz.f5 false true false false) := by
  obtain ⟨places, hx⟩ := reads os enc
  refine returnsInHanded_of_row (C := Tryz.checked) (s := (OpenSpec.ofChange Rows.worldSmallSpec)) own started (by kernel_rfl) Tryz.func5
    (XR.witness_row_shaped (enc := enc) (C := Tryz.checked) false (World.laidAll Tryz.prog os Rows.worldSmallRow.laid) #[.int .i8 0] (World.laidAll_os _ _ _) (World.shaped_of_ZipB (by kernel_rfl) (by kernel_rfl)) (by kernel_rfl)
      (OpenSpec.preRow_of_cond 8 hx (by kernel_rfl) (fun k hk => by cases hk) (by kernel_rfl) (laid_met os))) ?_
  intro W base args ds gs before hval hW _ _ _ hL _ _
  exact contract H enc W base args ds gs before hval hW hL
theorem said : Rows.WorldSmallSaid :=
  OpenClaim.holds_of_cond 5 Tryz.f5 rfl rfl rfl rfl rfl rfl rfl ⟨rfl, rfl, rfl, rfl, rfl⟩ rfl rfl rfl rfl rfl (by kernel_rfl) Tryz.func5 F.closed
    (of_decide_eq_true (by kernel_rfl)) (by unfold Func.isWrapper; first | (rw [if_pos (by decide +kernel)]; kernel_rfl) | (rw [if_neg (by decide +kernel)]; exact ⟨rfl, rfl⟩))
    (fun os started H enc _ F => by rw [OpenClaim.pre_eq_preRow]; exact lifted os started H enc F)
theorem plain (f : FuncId) (fn : Func) (hf : Tryz.pinned.checked.prog.funcNamed "tephra/tephralaw19.WorldSmall" = some f) (hfn : Tryz.pinned.checked.prog.funcs[f]? = some fn) :
    true = Tryz.pinned.checked.prog.looks [] ∧ ∀ (j : Nat) t, fn.params[j]? = some t → Tryz.pinned.checked.prog.wantsStandIn t = false := by
  obtain rfl : f = 5 := Option.some.inj ((show Tryz.prog.funcNamed "tephra/tephralaw19.WorldSmall" = some 5 by kernel_rfl).symm.trans hf) |>.symm
  obtain rfl : fn = Tryz.f5 := (Option.some.inj (Tryz.func5.symm.trans hfn)).symm
  refine ⟨by kernel_rfl, fun j t ht => ?_⟩
  rw [Tryz.params5] at ht
  have hm : t ∈ [84] := by have h := Array.mem_of_getElem? ht; simp at h ⊢; omega
  have hall : ([84].all fun u => !Tryz.prog.wantsStandIn u) = true := by kernel_rfl
  exact (show Tryz.prog.wantsStandIn t = false by simpa using List.all_eq_true.1 hall t hm)
theorem proved : Rows.WorldSmallCardSaid :=
  Claim7.holds_tied_plain_at .later [] _ _ _ _ said (fun _ h => by cases h) (by kernel_rfl) (fun _ h => by cases h) worldSmall_row_tie rfl ⟨rfl, rfl⟩ (by kernel_rfl) rfl plain (by kernel_rfl)
end Go.Proofs.YtiekoeapmhhjbaaGreatDoor.worldSmall
namespace Go.Proofs.YtiekoeapmhhjbaaGreatDoor
theorem worldSmall_card_holds : Rows.WorldSmallCardSaid := worldSmall.proved
end Go.Proofs.YtiekoeapmhhjbaaGreatDoor
