/- Proves EditsDoSaid: the law EditsDo returns true at every input, never panics, and every argument reads behind the call as before. Conditions: none beside the statement. -/
import Derived.Test.YtjlhookdigbjhaaRows
import Derived.Test.YtjlhookdigbjhaaEA
import Derived.Test.YtjlhookdigbjhaaEgD
import Derived.Test.YtjlhookdigbjhaaSxR
import Derived.Test.YtjlhookdigbjhaaGnR
namespace Go.Proofs.Ytjlhookdigbjhaa.editsDo
open Go Go.ChangeShapes Go.WideShapes Go.ChangeAt Go.RowKit
open Go.Proofs.Ytjlhookdigbjhaa.Sx Go.Proofs.Ytjlhookdigbjhaa.E1 Go.Proofs.Ytjlhookdigbjhaa.S1 Go.Proofs.Ytjlhookdigbjhaa.E2 Go.Proofs.Ytjlhookdigbjhaa.E3 Go.Proofs.Ytjlhookdigbjhaa.E4 Go.Proofs.Ytjlhookdigbjhaa.E5 Go.Proofs.Ytjlhookdigbjhaa.E6 Go.Proofs.Ytjlhookdigbjhaa.E7 Go.Proofs.Ytjlhookdigbjhaa.E8 Go.Proofs.Ytjlhookdigbjhaa.E9 Go.Proofs.Ytjlhookdigbjhaa.EA
set_option linter.unusedVariables false
theorem own : ownKnob Try.prog.godebug = none := by kernel_rfl
theorem laidOut : laidOutB Try.prog = true := by kernel_rfl
set_option maxRecDepth 100000 in
theorem dn24 {W : World} : Dn Try.prog W 24 tapiRef (fun _ => True) := fun enc sp hd fuel cs x h => by
  obtain ⟨hl, hf⟩ := Dn.field Try.underlying24 h
  rw [show Try.prog.cellsOf 24 = 4 by kernel_rfl] at hl
  obtain ⟨u0, u1, u2, u3, rfl⟩ : ∃ u0 u1 u2 u3, cs = [u0, u1, u2, u3] := by
    match cs, hl with
    | [u0, u1, u2, u3], _ => exact ⟨u0, u1, u2, u3, rfl⟩
  obtain ⟨a0, r0, -⟩ := hf 0 _ _ _ _ rfl (Dn.str Try.underlying9)
  have c0 : Try.prog.cellsOf 9 = 1 := by kernel_rfl
  have r0' : (tS).R (hp W) [u0] a0 := by
    have h : (tS).R (hp W) ((List.drop 0 [u0, u1, u2, u3]).take (Try.prog.cellsOf 9)) a0 := r0
    rw [c0] at h
    exact h
  obtain ⟨a1, r1, -⟩ := hf 1 _ _ _ _ rfl (Dn.i64 Try.underlying22)
  have c1 : Try.prog.cellsOf 22 = 1 := by kernel_rfl
  have r1' : (tI).R (hp W) [u1] a1 := by
    have h : (tI).R (hp W) ((List.drop 1 [u0, u1, u2, u3]).take (Try.prog.cellsOf 22)) a1 := r1
    rw [c1] at h
    exact h
  obtain ⟨a2, r2, -⟩ := hf 2 _ _ _ _ rfl (Dn.i64 Try.underlying3)
  have c2 : Try.prog.cellsOf 3 = 1 := by kernel_rfl
  have r2' : (tI).R (hp W) [u2] a2 := by
    have h : (tI).R (hp W) ((List.drop 2 [u0, u1, u2, u3]).take (Try.prog.cellsOf 3)) a2 := r2
    rw [c2] at h
    exact h
  obtain ⟨a3, r3, -⟩ := hf 3 _ _ _ _ rfl (Dn.i64 Try.underlying3)
  have c3 : Try.prog.cellsOf 3 = 1 := by kernel_rfl
  have r3' : (tI).R (hp W) [u3] a3 := by
    have h : (tI).R (hp W) ((List.drop 3 [u0, u1, u2, u3]).take (Try.prog.cellsOf 3)) a3 := r3
    rw [c3] at h
    exact h
  obtain rfl := (List.cons.inj r0').1
  obtain rfl := (List.cons.inj r1').1
  obtain rfl := (List.cons.inj r2').1
  obtain rfl := (List.cons.inj r3').1
  exact ⟨⟨a0, a1, a2, a3⟩, rfl, trivial⟩
set_option maxRecDepth 100000 in
theorem dn32 {W : World} : Dn Try.prog W 32 tlaw10Step (fun _ => True) := fun enc sp hd fuel cs x h => by
  obtain ⟨hl, hf⟩ := Dn.field Try.underlying32 h
  rw [show Try.prog.cellsOf 32 = 8 by kernel_rfl] at hl
  obtain ⟨u0, u1, u2, u3, u4, u5, u6, u7, rfl⟩ : ∃ u0 u1 u2 u3 u4 u5 u6 u7, cs = [u0, u1, u2, u3, u4, u5, u6, u7] := by
    match cs, hl with
    | [u0, u1, u2, u3, u4, u5, u6, u7], _ => exact ⟨u0, u1, u2, u3, u4, u5, u6, u7, rfl⟩
  obtain ⟨a0, r0, -⟩ := hf 0 _ _ _ _ rfl (Dn.slice Try.underlying30 (Dn.u8 Try.underlying5) (by kernel_rfl) (by decide))
  have c0 : Try.prog.cellsOf 30 = 1 := by kernel_rfl
  have r0' : ((tSl tU8)).R (hp W) [u0] a0 := by
    have h : ((tSl tU8)).R (hp W) ((List.drop 0 [u0, u1, u2, u3, u4, u5, u6, u7]).take (Try.prog.cellsOf 30)) a0 := r0
    rw [c0] at h
    exact h
  obtain ⟨a1, r1, -⟩ := hf 1 _ _ _ _ rfl (Dn.slice Try.underlying30 (Dn.u8 Try.underlying5) (by kernel_rfl) (by decide))
  have c1 : Try.prog.cellsOf 30 = 1 := by kernel_rfl
  have r1' : ((tSl tU8)).R (hp W) [u1] a1 := by
    have h : ((tSl tU8)).R (hp W) ((List.drop 1 [u0, u1, u2, u3, u4, u5, u6, u7]).take (Try.prog.cellsOf 30)) a1 := r1
    rw [c1] at h
    exact h
  obtain ⟨a2, r2, -⟩ := hf 2 _ _ _ _ rfl (Dn.u8 Try.underlying5)
  have c2 : Try.prog.cellsOf 5 = 1 := by kernel_rfl
  have r2' : (tU8).R (hp W) [u2] a2 := by
    have h : (tU8).R (hp W) ((List.drop 2 [u0, u1, u2, u3, u4, u5, u6, u7]).take (Try.prog.cellsOf 5)) a2 := r2
    rw [c2] at h
    exact h
  obtain ⟨a3, r3, -⟩ := hf 3 _ _ _ _ rfl (Dn.bool Try.underlying4)
  have c3 : Try.prog.cellsOf 4 = 1 := by kernel_rfl
  have r3' : (tB).R (hp W) [u3] a3 := by
    have h : (tB).R (hp W) ((List.drop 3 [u0, u1, u2, u3, u4, u5, u6, u7]).take (Try.prog.cellsOf 4)) a3 := r3
    rw [c3] at h
    exact h
  obtain ⟨a4, r4, -⟩ := hf 4 _ _ _ _ rfl (dn24)
  have c4 : Try.prog.cellsOf 24 = 4 := by kernel_rfl
  have r4' : (tapiRef).R (hp W) [u4, u5, u6, u7] a4 := by
    have h : (tapiRef).R (hp W) ((List.drop 4 [u0, u1, u2, u3, u4, u5, u6, u7]).take (Try.prog.cellsOf 24)) a4 := r4
    rw [c4] at h
    exact h
  obtain ⟨A0, c0', e0, f0⟩ := r0'
  cases e0
  obtain ⟨A1, c1', e1, f1⟩ := r1'
  cases e1
  obtain rfl := (List.cons.inj r2').1
  obtain rfl := (List.cons.inj r3').1
  have q4 := r4'
  simp only [tapiRef, List.cons.injEq, and_true] at q4
  obtain ⟨rfl, rfl, rfl, rfl⟩ := q4
  exact ⟨⟨a0, a1, a2, a3, a4⟩, ⟨A0, c0', A1, c1', rfl, f0, f1⟩, trivial⟩
set_option maxRecDepth 100000 in
set_option maxHeartbeats 2000000 in
theorem lifted (os : Os) (started : os.Started) (H : Type) (enc : TypeId × Value → H) :
    ReturnsInHanded {} Try.checked os 9 .any (Rows.editsDoSpec.pre6 enc Try.prog Try.f9 Rows.editsDoRow.domain false) (Rows.editsDoSpec.post enc Try.prog Try.f9 false true false false) := by
  refine returnsInHanded_of_change_sized (C := Try.checked) own started (by kernel_rfl) Try.func9
    (ChangeSpec.witness6 (enc := enc) (C := Try.checked) false ⟨#[], #[.slice none 0 0], []⟩ 8 (by kernel_rfl) (by kernel_rfl) (by kernel_rfl) (by kernel_rfl)) ?_
  intro W base args ds gs before hval0 hW hcnd hsz0 _
  have hval : ∀ (j : Nat) t v, Try.f9.params[j]? = some t → args[j]? = some v → Value.okWide Try.prog W .any base t v := hval0
  have hW' := hW
  obtain ⟨p, q, hA0, hV, rfl, hfz, hnd⟩ := hW
  have hA : DataW.TrodAll enc Try.prog W 0 (fun _ => true) true Try.f9.params.toList args.toList ds p := hA0
  rw [Try.params9] at hA hval
  obtain ⟨v0, vs0, d0, ds0, p0, q0, hargs, rfl, rfl, h0, r0⟩ := trodAll_cons hA
  obtain ⟨rfl, rfl, rfl⟩ := trodAll_nil r0
  obtain rfl : args = #[v0] := by cases args; simp_all
  obtain ⟨rfl, rfl⟩ := trodVars_none hV
  have k0 := h0
  have lt0 : ∀ x ∈ p0, x.block < W.heap.size := by obtain ⟨m, hm⟩ := k0; exact DataW.trod_lt m _ _ _ hm
  have hv0 := hval 0 36 v0 rfl rfl
  obtain ⟨x0, l0, c0, rfl⟩ := okWide_slice Try.underlying36 hv0
  obtain ⟨m0, hm0⟩ := h0
  obtain ⟨a0, ⟨A0, C0, e0, f0⟩, w0⟩ := (Dn.slice Try.underlying36 (dn32) (by kernel_rfl) (by decide)) _ _ _ _ _ _ hm0
  obtain ⟨rfl, rfl, rfl⟩ := Value.slice.inj (List.cons.inj e0).1
  refine (EA.go_law10_EditsDo.walk (St.start W) f0 (Eg.editsDo a0)).mono fun e W' ⟨z', he, hle, hst⟩ => ?_
  have bel : Below W.heap.size W W' := St.below hst hle
  subst he
  exact ⟨_, rfl, _, _, _, [], _, [], hW', trodAll_mk1 (shut_bool Try.underlying4 _), (trodAll_cons_mk (Below.trod laidOut (by kernel_rfl) (of_decide_eq_true (by kernel_rfl)) k0 bel lt0) trodAll_mk0), rfl, bel.frame _, fun h => by cases h⟩
theorem proved : Rows.EditsDoSaid :=
  OpenClaim.holds_of_wide 9 Try.f9 rfl rfl rfl rfl rfl rfl rfl ⟨rfl, rfl, rfl, rfl, rfl⟩ rfl rfl rfl rfl rfl (by kernel_rfl) Try.func9 (by kernel_rfl)
    (of_decide_eq_true (by kernel_rfl)) (by unfold Func.isWrapper; first | (rw [if_pos (by decide +kernel)]; kernel_rfl) | (rw [if_neg (by decide +kernel)]; exact ⟨rfl, rfl⟩))
    (fun os started H enc _ => lifted os started H enc)
end Go.Proofs.Ytjlhookdigbjhaa.editsDo
namespace Go.Proofs.Ytjlhookdigbjhaa
theorem editsDo_holds : Rows.EditsDoSaid := editsDo.proved
end Go.Proofs.Ytjlhookdigbjhaa
