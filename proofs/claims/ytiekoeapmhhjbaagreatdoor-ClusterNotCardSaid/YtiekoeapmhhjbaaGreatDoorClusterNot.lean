/- Proves ClusterNotCardSaid, the tied card: the law ClusterNot returns true at every input, never panics, and every argument reads behind the call as before. Conditions: none beside the statement (the listed tables of the library's are tied to the program's text by the given tie). -/
import Derived.Deep.DeepHandedRow
import Derived.Lay
import Derived.LaidOnce
import Derived.SevenTiedAt
import Derived.Test.YtiekoeapmhhjbaaGreatDoorRows
import Derived.Test.YtiekoeapmhhjbaaGreatDoorCards
import Derived.Test.YtiekoeapmhhjbaaGreatDoorTie
import Derived.Test.YtiekoeapmhhjbaaGreatDoorCN
import Derived.Test.YtiekoeapmhhjbaaGreatDoorXR
import Derived.Test.YtiekoeapmhhjbaaGreatDoorClusterNotF
import Derived.Test.YtiekoeapmhhjbaaGreatDoorSxR
import Derived.Test.YtiekoeapmhhjbaaGreatDoorGnR
namespace Go.Proofs.YtiekoeapmhhjbaaGreatDoor.clusterNot
open Go Go.ChangeShapes Go.WideShapes Go.ChangeAt Go.RowKit
open Go.Proofs.YtiekoeapmhhjbaaGreatDoor.Sx Go.Proofs.YtiekoeapmhhjbaaGreatDoor.C1
set_option linter.unusedVariables false
theorem own : ownKnob Tryz.prog.godebug = none := by kernel_rfl
theorem laidOut : laidOutB Tryz.prog = true := by kernel_rfl
set_option maxRecDepth 100000 in
theorem dn54 {W : World} : Dn Tryz.prog W 54 tlaw06Say (fun _ => True) := fun enc sp hd fuel cs x h => by
  obtain ⟨hl, hf⟩ := Dn.field Tryz.underlying54 h
  rw [show Tryz.prog.cellsOf 54 = 6 by kernel_rfl] at hl
  obtain ⟨u0, u1, u2, u3, u4, u5, rfl⟩ : ∃ u0 u1 u2 u3 u4 u5, cs = [u0, u1, u2, u3, u4, u5] := by
    match cs, hl with
    | [u0, u1, u2, u3, u4, u5], _ => exact ⟨u0, u1, u2, u3, u4, u5, rfl⟩
  obtain ⟨a0, r0, -⟩ := hf 0 _ _ _ _ rfl (Dn.u8 Tryz.underlying5)
  have c0 : Tryz.prog.cellsOf 5 = 1 := by kernel_rfl
  have r0' : (tU8).R (hp W) [u0] a0 := by
    have h : (tU8).R (hp W) ((List.drop 0 [u0, u1, u2, u3, u4, u5]).take (Tryz.prog.cellsOf 5)) a0 := r0
    rw [c0] at h
    exact h
  obtain ⟨a1, r1, -⟩ := hf 1 _ _ _ _ rfl (Dn.u8 Tryz.underlying5)
  have c1 : Tryz.prog.cellsOf 5 = 1 := by kernel_rfl
  have r1' : (tU8).R (hp W) [u1] a1 := by
    have h : (tU8).R (hp W) ((List.drop 1 [u0, u1, u2, u3, u4, u5]).take (Tryz.prog.cellsOf 5)) a1 := r1
    rw [c1] at h
    exact h
  obtain ⟨a2, r2, -⟩ := hf 2 _ _ _ _ rfl (Dn.u8 Tryz.underlying5)
  have c2 : Tryz.prog.cellsOf 5 = 1 := by kernel_rfl
  have r2' : (tU8).R (hp W) [u2] a2 := by
    have h : (tU8).R (hp W) ((List.drop 2 [u0, u1, u2, u3, u4, u5]).take (Tryz.prog.cellsOf 5)) a2 := r2
    rw [c2] at h
    exact h
  obtain ⟨a3, r3, -⟩ := hf 3 _ _ _ _ rfl (Dn.u8 Tryz.underlying5)
  have c3 : Tryz.prog.cellsOf 5 = 1 := by kernel_rfl
  have r3' : (tU8).R (hp W) [u3] a3 := by
    have h : (tU8).R (hp W) ((List.drop 3 [u0, u1, u2, u3, u4, u5]).take (Tryz.prog.cellsOf 5)) a3 := r3
    rw [c3] at h
    exact h
  obtain ⟨a4, r4, -⟩ := hf 4 _ _ _ _ rfl (Dn.u8 Tryz.underlying5)
  have c4 : Tryz.prog.cellsOf 5 = 1 := by kernel_rfl
  have r4' : (tU8).R (hp W) [u4] a4 := by
    have h : (tU8).R (hp W) ((List.drop 4 [u0, u1, u2, u3, u4, u5]).take (Tryz.prog.cellsOf 5)) a4 := r4
    rw [c4] at h
    exact h
  obtain ⟨a5, r5, -⟩ := hf 5 _ _ _ _ rfl (Dn.u8 Tryz.underlying5)
  have c5 : Tryz.prog.cellsOf 5 = 1 := by kernel_rfl
  have r5' : (tU8).R (hp W) [u5] a5 := by
    have h : (tU8).R (hp W) ((List.drop 5 [u0, u1, u2, u3, u4, u5]).take (Tryz.prog.cellsOf 5)) a5 := r5
    rw [c5] at h
    exact h
  obtain rfl := (List.cons.inj r0').1
  obtain rfl := (List.cons.inj r1').1
  obtain rfl := (List.cons.inj r2').1
  obtain rfl := (List.cons.inj r3').1
  obtain rfl := (List.cons.inj r4').1
  obtain rfl := (List.cons.inj r5').1
  exact ⟨⟨a0, a1, a2, a3, a4, a5⟩, rfl, trivial⟩
set_option maxRecDepth 100000 in
set_option maxHeartbeats 2000000 in
theorem contract (H : Type) (enc : TypeId × Value → H) (W : World) (base : Nat) (args : Array Value) (ds gs : List (DataW H)) (before : List MemPlace)
    (hval : ∀ (j : Nat) t v, Tryz.f4.params[j]? = some t → args[j]? = some v → Value.okWide Tryz.prog W .any base t v)
    (hW : DataW.Whole enc Tryz.prog Tryz.f4.params.toList Rows.clusterNotSpec.vars false W args.toList ds gs before) (hL : laidMetH Tryz.prog Rows.clusterNotRow.laid W) :
    Calls Tryz.prog 4 args W fun e W' => ∃ v, e = .returned v ∧ Rows.clusterNotSpec.post enc Tryz.prog Tryz.f4 false true false false W args v W' := by
  have hW' := hW
  obtain ⟨p, q, hA0, hV, rfl, hfz, hnd⟩ := hW
  have hA : DataW.TrodAll enc Tryz.prog W 0 (fun _ => true) true Tryz.f4.params.toList args.toList ds p := hA0
  rw [Tryz.params4] at hA hval
  obtain ⟨v0, vs0, d0, ds0, p0, q0, hargs, rfl, rfl, h0, r0⟩ := trodAll_cons hA
  obtain ⟨v1, vs1, d1, ds1, p1, q1, rfl, rfl, rfl, h1, r1⟩ := trodAll_cons r0
  obtain ⟨rfl, rfl, rfl⟩ := trodAll_nil r1
  obtain rfl : args = #[v0, v1] := by cases args; simp_all
  obtain ⟨rfl, rfl⟩ := trodVars_none hV
  have k0 := h0
  have lt0 : ∀ x ∈ p0, x.block < W.heap.size := by obtain ⟨m, hm⟩ := k0; exact DataW.trod_lt m _ _ _ hm
  have hv0 := hval 0 5 v0 rfl rfl
  obtain ⟨x0, rfl⟩ := okWide_int Tryz.underlying5 hv0
  obtain ⟨m0, hm0⟩ := h0
  obtain ⟨a0, e0, w0⟩ := (XR.u8 Tryz.underlying5) _ _ _ _ _ _ hm0
  obtain rfl := (Value.int.inj (List.cons.inj e0).1).2
  have k1 := h1
  have lt1 : ∀ x ∈ p1, x.block < W.heap.size := by obtain ⟨m, hm⟩ := k1; exact DataW.trod_lt m _ _ _ hm
  have hv1 := hval 1 54 v1 rfl rfl
  obtain ⟨x1, rfl, hs1⟩ := okWide_struct Tryz.underlying54 hv1
  obtain ⟨m1, hm1⟩ := h1
  obtain ⟨a1, e1, w1⟩ := (dn54) _ _ _ _ _ _ hm1
  obtain ⟨x1⟩ := x1
  obtain rfl : x1 = _ := e1
  have hc : Calls Tryz.prog 4 #[.int .u8 x0, .agg #[vu8 a1.Op, vu8 a1.Client, vu8 a1.Seq, vu8 a1.Key, vu8 a1.Value, vu8 a1.Old]] W fun x W' => x = .returned (.bool true) ∧ Below W.heap.size W W' := X.clusterNot_calls (XR.h6 hL) x0 w0.1 w0.2 (X.say_dv a1)
  refine hc.mono fun e W' hx => ?_
  obtain ⟨he, bel⟩ := hx
  subst he
  exact ⟨_, rfl, _, _, _, [], _, [], hW', trodAll_mk1 (shut_bool Tryz.underlying4 _), (trodAll_cons_mk (Below.trod laidOut (by kernel_rfl) (of_decide_eq_true (by kernel_rfl)) k0 bel lt0) (trodAll_cons_mk (Below.trod laidOut (by kernel_rfl) (of_decide_eq_true (by kernel_rfl)) k1 bel lt1) trodAll_mk0)), rfl, bel.frame _, fun h => by cases h⟩
theorem laid_met (os : Os) : laidMetH Tryz.prog Rows.clusterNotRow.laid ((World.laidAll Tryz.prog os Rows.clusterNotRow.laid).forCall (fun _ _ => 0) ⟨#[], #[.int .u8 0, .agg #[.int .u8 0, .int .u8 0, .int .u8 0, .int .u8 0, .int .u8 0, .int .u8 0]], []⟩).memory := by
  rw [MakeChecks.laidMetH_plain _ _ _ (by kernel_rfl)]
  exact laidMet_laidAll _ (by kernel_rfl) (by kernel_rfl)
theorem reads (os : Os) {H : Type} (enc : TypeId × Value → H) : ∃ places, DataW.whole enc Tryz.prog ((World.laidAll Tryz.prog os Rows.clusterNotRow.laid).forCall (fun _ _ => 0) ⟨#[], #[.int .u8 0, .agg #[.int .u8 0, .int .u8 0, .int .u8 0, .int .u8 0, .int .u8 0, .int .u8 0]], []⟩).memory Tryz.f4.params.toList Rows.clusterNotSpec.vars false #[(.int .u8 0 : Value), .agg #[.int .u8 0, .int .u8 0, .int .u8 0, .int .u8 0, .int .u8 0, .int .u8 0]].toList 8 = some ([.lit (.int .u8 0), .agg [.lit (.int .u8 0), .lit (.int .u8 0), .lit (.int .u8 0), .lit (.int .u8 0), .lit (.int .u8 0), .lit (.int .u8 0)]], [], places) :=
  ⟨[], by kernel_rfl⟩
set_option maxRecDepth 100000 in
theorem lifted (os : Os) (started : os.Started) (H : Type) (enc : TypeId × Value → H) (F : Stop.Interp) :
    ReturnsInHanded {} Tryz.checked os 4 .any ((OpenSpec.ofChange Rows.clusterNotSpec).preRow enc Tryz.prog Tryz.f4 Rows.clusterNotRow.domain false Rows.clusterNotRow.laid) (((OpenSpec.ofChange Rows.clusterNotSpec).at F).post enc Tryz.prog Tryz.f4 false true false false) := by
  obtain ⟨places, hx⟩ := reads os enc
  refine returnsInHanded_of_row (C := Tryz.checked) (s := (OpenSpec.ofChange Rows.clusterNotSpec)) own started (by kernel_rfl) Tryz.func4
    (XR.witness_row_shaped (enc := enc) (C := Tryz.checked) false (World.laidAll Tryz.prog os Rows.clusterNotRow.laid) #[.int .u8 0, .agg #[.int .u8 0, .int .u8 0, .int .u8 0, .int .u8 0, .int .u8 0, .int .u8 0]] (World.laidAll_os _ _ _) (World.shaped_of_ZipB (by kernel_rfl) (by kernel_rfl)) (by kernel_rfl)
      (OpenSpec.preRow_of_cond 8 hx (by kernel_rfl) (fun k hk => by cases hk) (by kernel_rfl) (laid_met os))) ?_
  intro W base args ds gs before hval hW _ _ _ hL _ _
  exact contract H enc W base args ds gs before hval hW hL
theorem said : Rows.ClusterNotSaid :=
  OpenClaim.holds_of_cond 4 Tryz.f4 rfl rfl rfl rfl rfl rfl rfl ⟨rfl, rfl, rfl, rfl, rfl⟩ rfl rfl rfl rfl rfl (by kernel_rfl) Tryz.func4 F.closed
    (of_decide_eq_true (by kernel_rfl)) (by unfold Func.isWrapper; first | (rw [if_pos (by decide +kernel)]; kernel_rfl) | (rw [if_neg (by decide +kernel)]; exact ⟨rfl, rfl⟩))
    (fun os started H enc _ F => by rw [OpenClaim.pre_eq_preRow]; exact lifted os started H enc F)
theorem plain (f : FuncId) (fn : Func) (hf : Tryz.pinned.checked.prog.funcNamed "tephra/tephralaw17.ClusterNot" = some f) (hfn : Tryz.pinned.checked.prog.funcs[f]? = some fn) :
    true = Tryz.pinned.checked.prog.looks [] ∧ ∀ (j : Nat) t, fn.params[j]? = some t → Tryz.pinned.checked.prog.wantsStandIn t = false := by
  obtain rfl : f = 4 := Option.some.inj ((show Tryz.prog.funcNamed "tephra/tephralaw17.ClusterNot" = some 4 by kernel_rfl).symm.trans hf) |>.symm
  obtain rfl : fn = Tryz.f4 := (Option.some.inj (Tryz.func4.symm.trans hfn)).symm
  refine ⟨by kernel_rfl, fun j t ht => ?_⟩
  rw [Tryz.params4] at ht
  have hm : t ∈ [5, 54] := by have h := Array.mem_of_getElem? ht; simp at h ⊢; omega
  have hall : ([5, 54].all fun u => !Tryz.prog.wantsStandIn u) = true := by kernel_rfl
  exact (show Tryz.prog.wantsStandIn t = false by simpa using List.all_eq_true.1 hall t hm)
theorem proved : Rows.ClusterNotCardSaid :=
  Claim7.holds_tied_plain_at .later [] _ _ _ _ said (fun _ h => by cases h) (by kernel_rfl) (fun _ h => by cases h) clusterNot_row_tie rfl ⟨rfl, rfl⟩ (by kernel_rfl) rfl plain (by kernel_rfl)
end Go.Proofs.YtiekoeapmhhjbaaGreatDoor.clusterNot
namespace Go.Proofs.YtiekoeapmhhjbaaGreatDoor
theorem clusterNot_card_holds : Rows.ClusterNotCardSaid := clusterNot.proved
end Go.Proofs.YtiekoeapmhhjbaaGreatDoor
