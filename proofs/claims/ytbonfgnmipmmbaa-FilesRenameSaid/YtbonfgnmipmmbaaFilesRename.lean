/- Proves FilesRenameSaid: the law FilesRename returns true at every input, never panics, and every argument reads behind the call as before. Conditions: none beside the statement. -/
import Derived.Test.YtbonfgnmipmmbaaRows
import Derived.Test.YtbonfgnmipmmbaaF6
import Derived.Test.YtbonfgnmipmmbaaFiF
import Derived.Test.YtbonfgnmipmmbaaSxR
import Derived.Test.YtbonfgnmipmmbaaGnR
namespace Go.Proofs.Ytbonfgnmipmmbaa.filesRename
open Go Go.ChangeShapes Go.WideShapes Go.ChangeAt Go.RowKit
open Go.Proofs.Ytbonfgnmipmmbaa.Sx Go.Proofs.Ytbonfgnmipmmbaa.F1 Go.Proofs.Ytbonfgnmipmmbaa.FM Go.Proofs.Ytbonfgnmipmmbaa.F2 Go.Proofs.Ytbonfgnmipmmbaa.F3 Go.Proofs.Ytbonfgnmipmmbaa.F4 Go.Proofs.Ytbonfgnmipmmbaa.F5 Go.Proofs.Ytbonfgnmipmmbaa.F6
set_option linter.unusedVariables false
theorem own : ownKnob Try.prog.godebug = none := by kernel_rfl
theorem laidOut : laidOutB Try.prog = true := by kernel_rfl
set_option maxRecDepth 100000 in
set_option maxHeartbeats 2000000 in
theorem lifted (os : Os) (started : os.Started) (H : Type) (enc : TypeId × Value → H) :
    ReturnsInHanded {} Try.checked os 6 .any (Rows.filesRenameSpec.pre6 enc Try.prog Try.f6 Rows.filesRenameRow.domain false) (Rows.filesRenameSpec.post enc Try.prog Try.f6 false true false false) := by
  refine returnsInHanded_of_change_sized (C := Try.checked) own started (by kernel_rfl) Try.func6
    (ChangeSpec.witness6 (enc := enc) (C := Try.checked) false ⟨#[], #[.slice none 0 0, .slice none 0 0, .int .u8 0, .int .u8 0], []⟩ 8 (by kernel_rfl) (by kernel_rfl) (by kernel_rfl) (by kernel_rfl)) ?_
  intro W base args ds gs before hval0 hW hcnd hsz0 _
  have hval : ∀ (j : Nat) t v, Try.f6.params[j]? = some t → args[j]? = some v → Value.okWide Try.prog W .any base t v := hval0
  have hW' := hW
  obtain ⟨p, q, hA0, hV, rfl, hfz, hnd⟩ := hW
  have hA : DataW.TrodAll enc Try.prog W 0 (fun _ => true) true Try.f6.params.toList args.toList ds p := hA0
  rw [Try.params6] at hA hval
  obtain ⟨v0, vs0, d0, ds0, p0, q0, hargs, rfl, rfl, h0, r0⟩ := trodAll_cons hA
  obtain ⟨v1, vs1, d1, ds1, p1, q1, rfl, rfl, rfl, h1, r1⟩ := trodAll_cons r0
  obtain ⟨v2, vs2, d2, ds2, p2, q2, rfl, rfl, rfl, h2, r2⟩ := trodAll_cons r1
  obtain ⟨v3, vs3, d3, ds3, p3, q3, rfl, rfl, rfl, h3, r3⟩ := trodAll_cons r2
  obtain ⟨rfl, rfl, rfl⟩ := trodAll_nil r3
  obtain rfl : args = #[v0, v1, v2, v3] := by cases args; simp_all
  obtain ⟨rfl, rfl⟩ := trodVars_none hV
  have k0 := h0
  have lt0 : ∀ x ∈ p0, x.block < W.heap.size := by obtain ⟨m, hm⟩ := k0; exact DataW.trod_lt m _ _ _ hm
  have hv0 := hval 0 22 v0 rfl rfl
  obtain ⟨x0, l0, c0, rfl⟩ := okWide_slice Try.underlying22 hv0
  obtain ⟨m0, hm0⟩ := h0
  obtain ⟨a0, ⟨A0, C0, e0, f0⟩, w0⟩ := (Dn.slice Try.underlying22 (Dn.u8 Try.underlying5) (by kernel_rfl) (by decide)) _ _ _ _ _ _ hm0
  obtain ⟨rfl, rfl, rfl⟩ := Value.slice.inj (List.cons.inj e0).1
  have k1 := h1
  have lt1 : ∀ x ∈ p1, x.block < W.heap.size := by obtain ⟨m, hm⟩ := k1; exact DataW.trod_lt m _ _ _ hm
  have hv1 := hval 1 22 v1 rfl rfl
  obtain ⟨x1, l1, c1, rfl⟩ := okWide_slice Try.underlying22 hv1
  obtain ⟨m1, hm1⟩ := h1
  obtain ⟨a1, ⟨A1, C1, e1, f1⟩, w1⟩ := (Dn.slice Try.underlying22 (Dn.u8 Try.underlying5) (by kernel_rfl) (by decide)) _ _ _ _ _ _ hm1
  obtain ⟨rfl, rfl, rfl⟩ := Value.slice.inj (List.cons.inj e1).1
  have k2 := h2
  have lt2 : ∀ x ∈ p2, x.block < W.heap.size := by obtain ⟨m, hm⟩ := k2; exact DataW.trod_lt m _ _ _ hm
  have hv2 := hval 2 5 v2 rfl rfl
  obtain ⟨x2, rfl⟩ := okWide_int Try.underlying5 hv2
  obtain ⟨m2, hm2⟩ := h2
  obtain ⟨a2, e2, w2⟩ := (Dn.u8 Try.underlying5) _ _ _ _ _ _ hm2
  obtain rfl := (Value.int.inj (List.cons.inj e2).1).2
  have k3 := h3
  have lt3 : ∀ x ∈ p3, x.block < W.heap.size := by obtain ⟨m, hm⟩ := k3; exact DataW.trod_lt m _ _ _ hm
  have hv3 := hval 3 5 v3 rfl rfl
  obtain ⟨x3, rfl⟩ := okWide_int Try.underlying5 hv3
  obtain ⟨m3, hm3⟩ := h3
  obtain ⟨a3, e3, w3⟩ := (Dn.u8 Try.underlying5) _ _ _ _ _ _ hm3
  obtain rfl := (Value.int.inj (List.cons.inj e3).1).2
  refine (F6.go_law04_FilesRename.walk (St.start W) f0 f1 (Fi.filesRename a0 a1 a2 a3)).mono fun e W' ⟨z', he, hle, hst⟩ => ?_
  have bel : Below W.heap.size W W' := St.below hst hle
  subst he
  exact ⟨_, rfl, _, _, _, [], _, [], hW', trodAll_mk1 (shut_bool Try.underlying4 _), (trodAll_cons_mk (Below.trod laidOut (by kernel_rfl) (of_decide_eq_true (by kernel_rfl)) k0 bel lt0) (trodAll_cons_mk (Below.trod laidOut (by kernel_rfl) (of_decide_eq_true (by kernel_rfl)) k1 bel lt1) (trodAll_cons_mk (Below.trod laidOut (by kernel_rfl) (of_decide_eq_true (by kernel_rfl)) k2 bel lt2) (trodAll_cons_mk (Below.trod laidOut (by kernel_rfl) (of_decide_eq_true (by kernel_rfl)) k3 bel lt3) trodAll_mk0)))), rfl, bel.frame _, fun h => by cases h⟩
theorem proved : Rows.FilesRenameSaid :=
  OpenClaim.holds_of_wide 6 Try.f6 rfl rfl rfl rfl rfl rfl rfl ⟨rfl, rfl, rfl, rfl, rfl⟩ rfl rfl rfl rfl rfl (by kernel_rfl) Try.func6 (by kernel_rfl)
    (of_decide_eq_true (by kernel_rfl)) (by unfold Func.isWrapper; first | (rw [if_pos (by decide +kernel)]; kernel_rfl) | (rw [if_neg (by decide +kernel)]; exact ⟨rfl, rfl⟩))
    (fun os started H enc _ => lifted os started H enc)
end Go.Proofs.Ytbonfgnmipmmbaa.filesRename
namespace Go.Proofs.Ytbonfgnmipmmbaa
theorem filesRename_holds : Rows.FilesRenameSaid := filesRename.proved
end Go.Proofs.Ytbonfgnmipmmbaa
