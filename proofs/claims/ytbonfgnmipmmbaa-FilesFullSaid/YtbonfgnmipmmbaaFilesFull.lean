/- Proves FilesFullSaid: the law FilesFull returns true at every input, never panics, and every argument reads behind the call as before. Conditions: none beside the statement. -/
import Derived.Test.YtbonfgnmipmmbaaRows
import Derived.Test.YtbonfgnmipmmbaaF4
import Derived.Test.YtbonfgnmipmmbaaFiB
import Derived.Test.YtbonfgnmipmmbaaSxR
import Derived.Test.YtbonfgnmipmmbaaGnR
namespace Go.Proofs.Ytbonfgnmipmmbaa.filesFull
open Go Go.ChangeShapes Go.WideShapes Go.ChangeAt Go.RowKit
open Go.Proofs.Ytbonfgnmipmmbaa.Sx Go.Proofs.Ytbonfgnmipmmbaa.F1 Go.Proofs.Ytbonfgnmipmmbaa.FM Go.Proofs.Ytbonfgnmipmmbaa.F2 Go.Proofs.Ytbonfgnmipmmbaa.F3 Go.Proofs.Ytbonfgnmipmmbaa.F4
set_option linter.unusedVariables false
theorem own : ownKnob Try.prog.godebug = none := by kernel_rfl
theorem laidOut : laidOutB Try.prog = true := by kernel_rfl
set_option maxRecDepth 100000 in
set_option maxHeartbeats 2000000 in
theorem lifted (os : Os) (started : os.Started) (H : Type) (enc : TypeId × Value → H) :
    ReturnsInHanded {} Try.checked os 5 .any (Rows.filesFullSpec.pre6 enc Try.prog Try.f5 Rows.filesFullRow.domain false) (Rows.filesFullSpec.post enc Try.prog Try.f5 false true false false) := by
  refine returnsInHanded_of_change_sized (C := Try.checked) own started (by kernel_rfl) Try.func5
    (ChangeSpec.witness6 (enc := enc) (C := Try.checked) false ⟨#[], #[.int .u8 0, .slice none 0 0], []⟩ 8 (by kernel_rfl) (by kernel_rfl) (by kernel_rfl) (by kernel_rfl)) ?_
  intro W base args ds gs before hval0 hW hcnd hsz0 _
  have hval : ∀ (j : Nat) t v, Try.f5.params[j]? = some t → args[j]? = some v → Value.okWide Try.prog W .any base t v := hval0
  have hW' := hW
  obtain ⟨p, q, hA0, hV, rfl, hfz, hnd⟩ := hW
  have hA : DataW.TrodAll enc Try.prog W 0 (fun _ => true) true Try.f5.params.toList args.toList ds p := hA0
  rw [Try.params5] at hA hval
  obtain ⟨v0, vs0, d0, ds0, p0, q0, hargs, rfl, rfl, h0, r0⟩ := trodAll_cons hA
  obtain ⟨v1, vs1, d1, ds1, p1, q1, rfl, rfl, rfl, h1, r1⟩ := trodAll_cons r0
  obtain ⟨rfl, rfl, rfl⟩ := trodAll_nil r1
  obtain rfl : args = #[v0, v1] := by cases args; simp_all
  obtain ⟨rfl, rfl⟩ := trodVars_none hV
  have k0 := h0
  have lt0 : ∀ x ∈ p0, x.block < W.heap.size := by obtain ⟨m, hm⟩ := k0; exact DataW.trod_lt m _ _ _ hm
  have hv0 := hval 0 5 v0 rfl rfl
  obtain ⟨x0, rfl⟩ := okWide_int Try.underlying5 hv0
  obtain ⟨m0, hm0⟩ := h0
  obtain ⟨a0, e0, w0⟩ := (Dn.u8 Try.underlying5) _ _ _ _ _ _ hm0
  obtain rfl := (Value.int.inj (List.cons.inj e0).1).2
  have k1 := h1
  have lt1 : ∀ x ∈ p1, x.block < W.heap.size := by obtain ⟨m, hm⟩ := k1; exact DataW.trod_lt m _ _ _ hm
  have hv1 := hval 1 39 v1 rfl rfl
  obtain ⟨x1, l1, c1, rfl⟩ := okWide_slice Try.underlying39 hv1
  obtain ⟨m1, hm1⟩ := h1
  obtain ⟨a1, ⟨A1, C1, e1, f1⟩, w1⟩ := (Dn.slice Try.underlying39 (Dn.slice Try.underlying22 (Dn.u8 Try.underlying5) (by kernel_rfl) (by decide)) (by kernel_rfl) (by decide)) _ _ _ _ _ _ hm1
  obtain ⟨rfl, rfl, rfl⟩ := Value.slice.inj (List.cons.inj e1).1
  refine (F4.go_law04_FilesFull.walk (St.start W) f1 (Fi.filesFull a0 a1)).mono fun e W' ⟨z', he, hle, hst⟩ => ?_
  have bel : Below W.heap.size W W' := St.below hst hle
  subst he
  exact ⟨_, rfl, _, _, _, [], _, [], hW', trodAll_mk1 (shut_bool Try.underlying4 _), (trodAll_cons_mk (Below.trod laidOut (by kernel_rfl) (of_decide_eq_true (by kernel_rfl)) k0 bel lt0) (trodAll_cons_mk (Below.trod laidOut (by kernel_rfl) (of_decide_eq_true (by kernel_rfl)) k1 bel lt1) trodAll_mk0)), rfl, bel.frame _, fun h => by cases h⟩
theorem proved : Rows.FilesFullSaid :=
  OpenClaim.holds_of_wide 5 Try.f5 rfl rfl rfl rfl rfl rfl rfl ⟨rfl, rfl, rfl, rfl, rfl⟩ rfl rfl rfl rfl rfl (by kernel_rfl) Try.func5 (by kernel_rfl)
    (of_decide_eq_true (by kernel_rfl)) (by unfold Func.isWrapper; first | (rw [if_pos (by decide +kernel)]; kernel_rfl) | (rw [if_neg (by decide +kernel)]; exact ⟨rfl, rfl⟩))
    (fun os started H enc _ => lifted os started H enc)
end Go.Proofs.Ytbonfgnmipmmbaa.filesFull
namespace Go.Proofs.Ytbonfgnmipmmbaa
theorem filesFull_holds : Rows.FilesFullSaid := filesFull.proved
end Go.Proofs.Ytbonfgnmipmmbaa
