/- Proves FilesScriptSaid: the law FilesScript returns true at every input, never panics, and every argument reads behind the call as before. Conditions: none beside the statement. -/
import Derived.Test.YtbonfgnmipmmbaaRows
import Derived.Test.YtbonfgnmipmmbaaF8
import Derived.Test.YtbonfgnmipmmbaaFiI
import Derived.Test.YtbonfgnmipmmbaaSxR
import Derived.Test.YtbonfgnmipmmbaaGnR
namespace Go.Proofs.Ytbonfgnmipmmbaa.filesScript
open Go Go.ChangeShapes Go.WideShapes Go.ChangeAt Go.RowKit
open Go.Proofs.Ytbonfgnmipmmbaa.Sx Go.Proofs.Ytbonfgnmipmmbaa.F1 Go.Proofs.Ytbonfgnmipmmbaa.FM Go.Proofs.Ytbonfgnmipmmbaa.F2 Go.Proofs.Ytbonfgnmipmmbaa.F3 Go.Proofs.Ytbonfgnmipmmbaa.F4 Go.Proofs.Ytbonfgnmipmmbaa.F5 Go.Proofs.Ytbonfgnmipmmbaa.F6 Go.Proofs.Ytbonfgnmipmmbaa.F7 Go.Proofs.Ytbonfgnmipmmbaa.F8
set_option linter.unusedVariables false
theorem own : ownKnob Try.prog.godebug = none := by kernel_rfl
theorem laidOut : laidOutB Try.prog = true := by kernel_rfl
set_option maxRecDepth 100000 in
theorem dn49 {W : World} : Dn Try.prog W 49 tlaw04Act (fun _ => True) := fun enc sp hd fuel cs x h => by
  obtain ⟨hl, hf⟩ := Dn.field Try.underlying49 h
  rw [show Try.prog.cellsOf 49 = 5 by kernel_rfl] at hl
  obtain ⟨u0, u1, u2, u3, u4, rfl⟩ : ∃ u0 u1 u2 u3 u4, cs = [u0, u1, u2, u3, u4] := by
    match cs, hl with
    | [u0, u1, u2, u3, u4], _ => exact ⟨u0, u1, u2, u3, u4, rfl⟩
  obtain ⟨a0, r0, -⟩ := hf 0 _ _ _ _ rfl (Dn.u8 Try.underlying5)
  have c0 : Try.prog.cellsOf 5 = 1 := by kernel_rfl
  have r0' : (tU8).R (hp W) [u0] a0 := by
    have h : (tU8).R (hp W) ((List.drop 0 [u0, u1, u2, u3, u4]).take (Try.prog.cellsOf 5)) a0 := r0
    rw [c0] at h
    exact h
  obtain ⟨a1, r1, -⟩ := hf 1 _ _ _ _ rfl (Dn.u8 Try.underlying5)
  have c1 : Try.prog.cellsOf 5 = 1 := by kernel_rfl
  have r1' : (tU8).R (hp W) [u1] a1 := by
    have h : (tU8).R (hp W) ((List.drop 1 [u0, u1, u2, u3, u4]).take (Try.prog.cellsOf 5)) a1 := r1
    rw [c1] at h
    exact h
  obtain ⟨a2, r2, -⟩ := hf 2 _ _ _ _ rfl (Dn.u8 Try.underlying5)
  have c2 : Try.prog.cellsOf 5 = 1 := by kernel_rfl
  have r2' : (tU8).R (hp W) [u2] a2 := by
    have h : (tU8).R (hp W) ((List.drop 2 [u0, u1, u2, u3, u4]).take (Try.prog.cellsOf 5)) a2 := r2
    rw [c2] at h
    exact h
  obtain ⟨a3, r3, -⟩ := hf 3 _ _ _ _ rfl (Dn.slice Try.underlying22 (Dn.u8 Try.underlying5) (by kernel_rfl) (by decide))
  have c3 : Try.prog.cellsOf 22 = 1 := by kernel_rfl
  have r3' : ((tSl tU8)).R (hp W) [u3] a3 := by
    have h : ((tSl tU8)).R (hp W) ((List.drop 3 [u0, u1, u2, u3, u4]).take (Try.prog.cellsOf 22)) a3 := r3
    rw [c3] at h
    exact h
  obtain ⟨a4, r4, -⟩ := hf 4 _ _ _ _ rfl (Dn.i16 Try.underlying23)
  have c4 : Try.prog.cellsOf 23 = 1 := by kernel_rfl
  have r4' : (tI16).R (hp W) [u4] a4 := by
    have h : (tI16).R (hp W) ((List.drop 4 [u0, u1, u2, u3, u4]).take (Try.prog.cellsOf 23)) a4 := r4
    rw [c4] at h
    exact h
  obtain rfl := (List.cons.inj r0').1
  obtain rfl := (List.cons.inj r1').1
  obtain rfl := (List.cons.inj r2').1
  obtain ⟨A3, c3', e3, f3⟩ := r3'
  cases e3
  obtain rfl := (List.cons.inj r4').1
  exact ⟨⟨a0, a1, a2, a3, a4⟩, ⟨A3, c3', rfl, f3⟩, trivial⟩
set_option maxRecDepth 100000 in
set_option maxHeartbeats 2000000 in
theorem lifted (os : Os) (started : os.Started) (H : Type) (enc : TypeId × Value → H) :
    ReturnsInHanded {} Try.checked os 10 .any (Rows.filesScriptSpec.pre6 enc Try.prog Try.f10 Rows.filesScriptRow.domain false) (Rows.filesScriptSpec.post enc Try.prog Try.f10 false true false false) := by
  refine returnsInHanded_of_change_sized (C := Try.checked) own started (by kernel_rfl) Try.func10
    (ChangeSpec.witness6 (enc := enc) (C := Try.checked) false ⟨#[], #[.slice none 0 0, .int .u8 0], []⟩ 8 (by kernel_rfl) (by kernel_rfl) (by kernel_rfl) (by kernel_rfl)) ?_
  intro W base args ds gs before hval0 hW hcnd hsz0 _
  have hval : ∀ (j : Nat) t v, Try.f10.params[j]? = some t → args[j]? = some v → Value.okWide Try.prog W .any base t v := hval0
  have hW' := hW
  obtain ⟨p, q, hA0, hV, rfl, hfz, hnd⟩ := hW
  have hA : DataW.TrodAll enc Try.prog W 0 (fun _ => true) true Try.f10.params.toList args.toList ds p := hA0
  rw [Try.params10] at hA hval
  obtain ⟨v0, vs0, d0, ds0, p0, q0, hargs, rfl, rfl, h0, r0⟩ := trodAll_cons hA
  obtain ⟨v1, vs1, d1, ds1, p1, q1, rfl, rfl, rfl, h1, r1⟩ := trodAll_cons r0
  obtain ⟨rfl, rfl, rfl⟩ := trodAll_nil r1
  obtain rfl : args = #[v0, v1] := by cases args; simp_all
  obtain ⟨rfl, rfl⟩ := trodVars_none hV
  have k0 := h0
  have lt0 : ∀ x ∈ p0, x.block < W.heap.size := by obtain ⟨m, hm⟩ := k0; exact DataW.trod_lt m _ _ _ hm
  have hv0 := hval 0 47 v0 rfl rfl
  obtain ⟨x0, l0, c0, rfl⟩ := okWide_slice Try.underlying47 hv0
  obtain ⟨m0, hm0⟩ := h0
  obtain ⟨a0, ⟨A0, C0, e0, f0⟩, w0⟩ := (Dn.slice Try.underlying47 (dn49) (by kernel_rfl) (by decide)) _ _ _ _ _ _ hm0
  obtain ⟨rfl, rfl, rfl⟩ := Value.slice.inj (List.cons.inj e0).1
  have k1 := h1
  have lt1 : ∀ x ∈ p1, x.block < W.heap.size := by obtain ⟨m, hm⟩ := k1; exact DataW.trod_lt m _ _ _ hm
  have hv1 := hval 1 5 v1 rfl rfl
  obtain ⟨x1, rfl⟩ := okWide_int Try.underlying5 hv1
  obtain ⟨m1, hm1⟩ := h1
  obtain ⟨a1, e1, w1⟩ := (Dn.u8 Try.underlying5) _ _ _ _ _ _ hm1
  obtain rfl := (Value.int.inj (List.cons.inj e1).1).2
  refine (F8.go_law04_FilesScript.walk (St.start W) f0 (Fi.filesScript a0 a1)).mono fun e W' ⟨z', he, hle, hst⟩ => ?_
  have bel : Below W.heap.size W W' := St.below hst hle
  subst he
  exact ⟨_, rfl, _, _, _, [], _, [], hW', trodAll_mk1 (shut_bool Try.underlying4 _), (trodAll_cons_mk (Below.trod laidOut (by kernel_rfl) (of_decide_eq_true (by kernel_rfl)) k0 bel lt0) (trodAll_cons_mk (Below.trod laidOut (by kernel_rfl) (of_decide_eq_true (by kernel_rfl)) k1 bel lt1) trodAll_mk0)), rfl, bel.frame _, fun h => by cases h⟩
theorem proved : Rows.FilesScriptSaid :=
  OpenClaim.holds_of_wide 10 Try.f10 rfl rfl rfl rfl rfl rfl rfl ⟨rfl, rfl, rfl, rfl, rfl⟩ rfl rfl rfl rfl rfl (by kernel_rfl) Try.func10 (by kernel_rfl)
    (of_decide_eq_true (by kernel_rfl)) (by unfold Func.isWrapper; first | (rw [if_pos (by decide +kernel)]; kernel_rfl) | (rw [if_neg (by decide +kernel)]; exact ⟨rfl, rfl⟩))
    (fun os started H enc _ => lifted os started H enc)
end Go.Proofs.Ytbonfgnmipmmbaa.filesScript
namespace Go.Proofs.Ytbonfgnmipmmbaa
theorem filesScript_holds : Rows.FilesScriptSaid := filesScript.proved
end Go.Proofs.Ytbonfgnmipmmbaa
