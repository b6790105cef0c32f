/- Proves ViewRefsUptoCardSaid, the tied card: the law ViewRefs returns true wherever what comes in is of bulk at most 1048576, never panics, and every argument reads behind the call as before. Conditions: none beside the statement (the listed tables of the library's are tied to the program's text by the given tie). -/
import Derived.Deep.DeepHandedRow
import Derived.Lay
import Derived.LaidOnce
import Derived.SevenTiedAt
import Derived.Test.YtfomkndngnfneaaDoorRows
import Derived.Test.YtfomkndngnfneaaDoorCards
import Derived.Test.YtfomkndngnfneaaDoorTie
import Derived.Test.YtfomkndngnfneaaDoorV2
import Derived.Test.YtfomkndngnfneaaDoorVL
import Derived.Test.YtfomkndngnfneaaDoorViB
import Derived.Test.YtfomkndngnfneaaDoorGnX
import Derived.Test.YtfomkndngnfneaaDoorSxR
import Derived.Test.YtfomkndngnfneaaDoorGnR
import Derived.Test.YtfomkndngnfneaaDoorRowBulk
import Derived.Test.YtfomkndngnfneaaDoorGnW
namespace Go.Proofs.YtfomkndngnfneaaDoor.viewRefs
open Go Go.ChangeShapes Go.WideShapes Go.ChangeAt Go.RowKit
open Go.Proofs.YtfomkndngnfneaaDoor.Sx Go.Proofs.YtfomkndngnfneaaDoor.V1 Go.Proofs.YtfomkndngnfneaaDoor.V2
set_option linter.unusedVariables false
theorem own : ownKnob Tryd.prog.godebug = none := by kernel_rfl
theorem laidOut : laidOutB Tryd.prog = true := by kernel_rfl
def wf40 (B : Nat) (a : apiRef) : Prop := (fun s : Str => s.length ≤ B) a.Name ∧ InI a.Kind ∧ InI a.From ∧ InI a.To ∧ True
set_option maxRecDepth 100000 in
theorem dn40 {W : World} {B : Nat} : Db Tryd.prog W B 40 tapiRef (wf40 B) := fun enc sp hd fuel cs x h hB => by
  obtain ⟨hl, hf⟩ := Db.field Tryd.underlying40 h hB
  rw [show Tryd.prog.cellsOf 40 = 4 by kernel_rfl] at hl
  obtain ⟨u0, u1, u2, u3, rfl⟩ : ∃ u0 u1 u2 u3, cs = [u0, u1, u2, u3] := by
    match cs, hl with
    | [u0, u1, u2, u3], _ => exact ⟨u0, u1, u2, u3, rfl⟩
  obtain ⟨a0, r0, w0⟩ := hf 0 _ _ _ _ rfl (Db.str Tryd.underlying9)
  have c0 : Tryd.prog.cellsOf 9 = 1 := by kernel_rfl
  have r0' : (tS).R (hp W) [u0] a0 := by
    have h : (tS).R (hp W) ((List.drop 0 [u0, u1, u2, u3]).take (Tryd.prog.cellsOf 9)) a0 := r0
    rw [c0] at h
    exact h
  obtain ⟨a1, r1, w1⟩ := hf 1 _ _ _ _ rfl (Db.of (Dn.i64 Tryd.underlying38))
  have c1 : Tryd.prog.cellsOf 38 = 1 := by kernel_rfl
  have r1' : (tI).R (hp W) [u1] a1 := by
    have h : (tI).R (hp W) ((List.drop 1 [u0, u1, u2, u3]).take (Tryd.prog.cellsOf 38)) a1 := r1
    rw [c1] at h
    exact h
  obtain ⟨a2, r2, w2⟩ := hf 2 _ _ _ _ rfl (Db.of (Dn.i64 Tryd.underlying3))
  have c2 : Tryd.prog.cellsOf 3 = 1 := by kernel_rfl
  have r2' : (tI).R (hp W) [u2] a2 := by
    have h : (tI).R (hp W) ((List.drop 2 [u0, u1, u2, u3]).take (Tryd.prog.cellsOf 3)) a2 := r2
    rw [c2] at h
    exact h
  obtain ⟨a3, r3, w3⟩ := hf 3 _ _ _ _ rfl (Db.of (Dn.i64 Tryd.underlying3))
  have c3 : Tryd.prog.cellsOf 3 = 1 := by kernel_rfl
  have r3' : (tI).R (hp W) [u3] a3 := by
    have h : (tI).R (hp W) ((List.drop 3 [u0, u1, u2, u3]).take (Tryd.prog.cellsOf 3)) a3 := r3
    rw [c3] at h
    exact h
  obtain rfl := (List.cons.inj r0').1
  obtain rfl := (List.cons.inj r1').1
  obtain rfl := (List.cons.inj r2').1
  obtain rfl := (List.cons.inj r3').1
  exact ⟨⟨a0, a1, a2, a3⟩, rfl, ⟨w0, w1, w2, w3, trivial⟩⟩
set_option maxRecDepth 100000 in
set_option maxHeartbeats 2000000 in
theorem contract (H : Type) (enc : TypeId × Value → H) (W : World) (base : Nat) (args : Array Value) (ds gs : List (DataW H)) (before : List MemPlace)
    (hval : ∀ (j : Nat) t v, Tryd.f4.params[j]? = some t → args[j]? = some v → Value.okWide Tryd.prog W .any base t v)
    (hW : DataW.Whole enc Tryd.prog Tryd.f4.params.toList Rows.viewRefsSpec.vars false W args.toList ds gs before) (hk : Rows.uptoSmall H (ds ++ gs) = true) (hL : laidMetH Tryd.prog Rows.viewRefsUptoRow.laid W) :
    Calls Tryd.prog 4 args W fun e W' => ∃ v, e = .returned v ∧ Rows.viewRefsSpec.post enc Tryd.prog Tryd.f4 false true false false W args v W' := by
  have hW' := hW
  obtain ⟨p, q, hA0, hV, rfl, hfz, hnd⟩ := hW
  have hA : DataW.TrodAll enc Tryd.prog W 0 (fun _ => true) true Tryd.f4.params.toList args.toList ds p := hA0
  rw [Tryd.params4] at hA hval
  obtain ⟨v0, vs0, d0, ds0, p0, q0, hargs, rfl, rfl, h0, r0⟩ := trodAll_cons hA
  obtain ⟨v1, vs1, d1, ds1, p1, q1, rfl, rfl, rfl, h1, r1⟩ := trodAll_cons r0
  obtain ⟨rfl, rfl, rfl⟩ := trodAll_nil r1
  obtain rfl : args = #[v0, v1] := by cases args; simp_all
  obtain ⟨rfl, rfl⟩ := trodVars_none hV
  have k0 := h0
  have lt0 : ∀ x ∈ p0, x.block < W.heap.size := by obtain ⟨m, hm⟩ := k0; exact DataW.trod_lt m _ _ _ hm
  have hv0 := hval 0 34 v0 rfl rfl
  obtain ⟨x0, l0, c0, rfl⟩ := okWide_slice Tryd.underlying34 hv0
  obtain ⟨m0, hm0⟩ := h0
  obtain ⟨a0, ⟨A0, C0, e0, f0⟩, w0⟩ := (Db.slice Tryd.underlying34 (dn40) (by kernel_rfl) (by decide)) _ _ _ _ _ _ hm0 (Nat.le_trans (Bulk.part_le (l := [d0, d1]) (by simp)) (Bulk.bound (by simpa using hk)))
  obtain ⟨rfl, rfl, rfl⟩ := Value.slice.inj (List.cons.inj e0).1
  have k1 := h1
  have lt1 : ∀ x ∈ p1, x.block < W.heap.size := by obtain ⟨m, hm⟩ := k1; exact DataW.trod_lt m _ _ _ hm
  have hv1 := hval 1 3 v1 rfl rfl
  obtain ⟨x1, rfl⟩ := okWide_int Tryd.underlying3 hv1
  obtain ⟨m1, hm1⟩ := h1
  obtain ⟨a1, e1, w1⟩ := (Db.of (Dn.i64 Tryd.underlying3)) _ _ _ _ _ _ hm1 (Nat.le_trans (Bulk.part_le (l := [d0, d1]) (by simp)) (Bulk.bound (by simpa using hk)))
  obtain rfl := (Value.int.inj (List.cons.inj e1).1).2
  refine (V2.go_law20_ViewRefs.walk (St.start W) f0 (VL.tb hL) (Vi.viewRefs a0 x1 (fun r hr => ⟨(w0.1 r hr).2.2.1, (w0.1 r hr).2.2.2.1, Nat.le_trans (w0.1 r hr).1 (by decide)⟩) w1)).mono fun e W' ⟨z', he, hle, hst⟩ => ?_
  have bel : Below W.heap.size W W' := St.below hst hle
  subst he
  exact ⟨_, rfl, _, _, _, [], _, [], hW', trodAll_mk1 (shut_bool Tryd.underlying4 _), (trodAll_cons_mk (Below.trod laidOut (by kernel_rfl) (of_decide_eq_true (by kernel_rfl)) k0 bel lt0) (trodAll_cons_mk (Below.trod laidOut (by kernel_rfl) (of_decide_eq_true (by kernel_rfl)) k1 bel lt1) trodAll_mk0)), rfl, bel.frame _, fun h => by cases h⟩
theorem laid_met (os : Os) : laidMetH Tryd.prog Rows.viewRefsUptoRow.laid ((World.laidAll Tryd.prog os Rows.viewRefsUptoRow.laid).forCall (fun _ _ => 0) ⟨#[], #[.slice none 0 0, .int .i64 0], []⟩).memory := by
  rw [MakeChecks.laidMetH_plain _ _ _ (by kernel_rfl)]
  exact laidMet_laidAll _ (by kernel_rfl) (by kernel_rfl)
theorem reads (os : Os) {H : Type} (enc : TypeId × Value → H) : ∃ places, DataW.whole enc Tryd.prog ((World.laidAll Tryd.prog os Rows.viewRefsUptoRow.laid).forCall (fun _ _ => 0) ⟨#[], #[.slice none 0 0, .int .i64 0], []⟩).memory Tryd.f4.params.toList Rows.viewRefsSpec.vars false #[.slice none 0 0, .int .i64 0].toList 8 = some ([.nil, .lit (.int .i64 0)], [], places) :=
  ⟨[], by kernel_rfl⟩
set_option maxRecDepth 100000 in
theorem lifted (os : Os) (started : os.Started) (H : Type) (enc : TypeId × Value → H) (F : Stop.Interp) :
    ReturnsInHanded {} Tryd.checked os 4 .any ((Rows.OpenSpec.upto Rows.viewRefsSpec).preRow enc Tryd.prog Tryd.f4 Rows.viewRefsUptoRow.domain false Rows.viewRefsUptoRow.laid) (((Rows.OpenSpec.upto Rows.viewRefsSpec).at F).post enc Tryd.prog Tryd.f4 false true false false) := by
  obtain ⟨places, hx⟩ := reads os enc
  refine returnsInHanded_of_row (C := Tryd.checked) (s := (Rows.OpenSpec.upto Rows.viewRefsSpec)) own started (by kernel_rfl) Tryd.func4
    (witness_row_shaped (enc := enc) (C := Tryd.checked) false (World.laidAll Tryd.prog os Rows.viewRefsUptoRow.laid) #[.slice none 0 0, .int .i64 0] (World.laidAll_os _ _ _) (World.shaped_of_ZipB (by kernel_rfl) (by kernel_rfl)) (by kernel_rfl)
      (OpenSpec.preRow_of_cond 8 hx (by kernel_rfl) (fun k hk => by cases hk; kernel_rfl) (by kernel_rfl) (laid_met os))) ?_
  intro W base args ds gs before hval hW _ hcond _ hL _ _
  exact contract H enc W base args ds gs before hval hW (hcond _ rfl) hL
theorem said : Rows.ViewRefsUptoSaid :=
  OpenClaim.holds_of_cond 4 Tryd.f4 rfl rfl rfl rfl rfl rfl rfl ⟨rfl, rfl, rfl, rfl, rfl⟩ rfl rfl rfl rfl rfl (by kernel_rfl) Tryd.func4 (by kernel_rfl)
    (of_decide_eq_true (by kernel_rfl)) (by unfold Func.isWrapper; first | (rw [if_pos (by decide +kernel)]; kernel_rfl) | (rw [if_neg (by decide +kernel)]; exact ⟨rfl, rfl⟩))
    (fun os started H enc _ F => by rw [OpenClaim.pre_eq_preRow]; exact lifted os started H enc F)
theorem plain (f : FuncId) (fn : Func) (hf : Tryd.pinned.checked.prog.funcNamed "tephra/tephralaw20.ViewRefs" = some f) (hfn : Tryd.pinned.checked.prog.funcs[f]? = some fn) :
    false = Tryd.pinned.checked.prog.looks [] ∧ ∀ (j : Nat) t, fn.params[j]? = some t → Tryd.pinned.checked.prog.wantsStandIn t = false := by
  obtain rfl : f = 4 := Option.some.inj ((show Tryd.prog.funcNamed "tephra/tephralaw20.ViewRefs" = some 4 by kernel_rfl).symm.trans hf) |>.symm
  obtain rfl : fn = Tryd.f4 := (Option.some.inj (Tryd.func4.symm.trans hfn)).symm
  refine ⟨by kernel_rfl, fun j t ht => ?_⟩
  rw [Tryd.params4] at ht
  have hm : t ∈ [34, 3] := by have h := Array.mem_of_getElem? ht; simp at h ⊢; omega
  have hall : ([34, 3].all fun u => !Tryd.prog.wantsStandIn u) = true := by kernel_rfl
  exact (show Tryd.prog.wantsStandIn t = false by simpa using List.all_eq_true.1 hall t hm)
theorem proved : Rows.ViewRefsUptoCardSaid :=
  Claim7.holds_tied_plain_at .later [] _ _ _ _ said (fun _ h => by cases h) (by kernel_rfl) (fun _ h => by cases h) viewRefsUpto_row_tie rfl ⟨rfl, rfl⟩ (by kernel_rfl) rfl plain (by kernel_rfl)
end Go.Proofs.YtfomkndngnfneaaDoor.viewRefs
namespace Go.Proofs.YtfomkndngnfneaaDoor
theorem viewRefsUpto_card_holds : Rows.ViewRefsUptoCardSaid := viewRefs.proved
end Go.Proofs.YtfomkndngnfneaaDoor
