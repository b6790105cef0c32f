/- Proves FilesManySaid: the law FilesMany returns true at every input, never panics, and every argument reads behind the call as before. Conditions: none beside the statement. -/
import Derived.Test.YtbonfgnmipmmbaaRows
import Derived.Test.YtbonfgnmipmmbaaF5
import Derived.Test.YtbonfgnmipmmbaaFiE
import Derived.Test.YtbonfgnmipmmbaaSxR
import Derived.Test.YtbonfgnmipmmbaaGnR
namespace Go.Proofs.Ytbonfgnmipmmbaa.filesMany
open Go Go.ChangeShapes Go.WideShapes Go.ChangeAt Go.RowKit
open Go.Proofs.Ytbonfgnmipmmbaa.Sx Go.Proofs.Ytbonfgnmipmmbaa.F1 Go.Proofs.Ytbonfgnmipmmbaa.FM Go.Proofs.Ytbonfgnmipmmbaa.F2 Go.Proofs.Ytbonfgnmipmmbaa.F3 Go.Proofs.Ytbonfgnmipmmbaa.F4 Go.Proofs.Ytbonfgnmipmmbaa.F5
set_option linter.unusedVariables false
theorem own : ownKnob Try.prog.godebug = none := by kernel_rfl
theorem laidOut : laidOutB Try.prog = true := by kernel_rfl
set_option maxRecDepth 100000 in
set_option maxHeartbeats 2000000 in
theorem lifted (os : Os) (started : os.Started) (H : Type) (enc : TypeId × Value → H) :
    ReturnsInHanded {} Try.checked os 9 .any (Rows.filesManySpec.pre6 enc Try.prog Try.f9 Rows.filesManyRow.domain false) (Rows.filesManySpec.post enc Try.prog Try.f9 false true false false) := by
  refine returnsInHanded_of_change_sized (C := Try.checked) own started (by kernel_rfl) Try.func9
    (ChangeSpec.witness6 (enc := enc) (C := Try.checked) false ⟨#[], #[.int .u8 0], []⟩ 8 (by kernel_rfl) (by kernel_rfl) (by kernel_rfl) (by kernel_rfl)) ?_
  intro W base args ds gs before hval0 hW hcnd hsz0 _
  have hval : ∀ (j : Nat) t v, Try.f9.params[j]? = some t → args[j]? = some v → Value.okWide Try.prog W .any base t v := hval0
  have hW' := hW
  obtain ⟨p, q, hA0, hV, rfl, hfz, hnd⟩ := hW
  have hA : DataW.TrodAll enc Try.prog W 0 (fun _ => true) true Try.f9.params.toList args.toList ds p := hA0
  rw [Try.params9] at hA hval
  obtain ⟨v0, vs0, d0, ds0, p0, q0, hargs, rfl, rfl, h0, r0⟩ := trodAll_cons hA
  obtain ⟨rfl, rfl, rfl⟩ := trodAll_nil r0
  obtain rfl : args = #[v0] := by cases args; simp_all
  obtain ⟨rfl, rfl⟩ := trodVars_none hV
  have k0 := h0
  have lt0 : ∀ x ∈ p0, x.block < W.heap.size := by obtain ⟨m, hm⟩ := k0; exact DataW.trod_lt m _ _ _ hm
  have hv0 := hval 0 5 v0 rfl rfl
  obtain ⟨x0, rfl⟩ := okWide_int Try.underlying5 hv0
  obtain ⟨m0, hm0⟩ := h0
  obtain ⟨a0, e0, w0⟩ := (Dn.u8 Try.underlying5) _ _ _ _ _ _ hm0
  obtain rfl := (Value.int.inj (List.cons.inj e0).1).2
  refine (F5.go_law04_FilesMany.walk (St.start W) (Fi.filesMany a0)).mono fun e W' ⟨z', he, hle, hst⟩ => ?_
  have bel : Below W.heap.size W W' := St.below hst hle
  subst he
  exact ⟨_, rfl, _, _, _, [], _, [], hW', trodAll_mk1 (shut_bool Try.underlying4 _), (trodAll_cons_mk (Below.trod laidOut (by kernel_rfl) (of_decide_eq_true (by kernel_rfl)) k0 bel lt0) trodAll_mk0), rfl, bel.frame _, fun h => by cases h⟩
theorem proved : Rows.FilesManySaid :=
  OpenClaim.holds_of_wide 9 Try.f9 rfl rfl rfl rfl rfl rfl rfl ⟨rfl, rfl, rfl, rfl, rfl⟩ rfl rfl rfl rfl rfl (by kernel_rfl) Try.func9 (by kernel_rfl)
    (of_decide_eq_true (by kernel_rfl)) (by unfold Func.isWrapper; first | (rw [if_pos (by decide +kernel)]; kernel_rfl) | (rw [if_neg (by decide +kernel)]; exact ⟨rfl, rfl⟩))
    (fun os started H enc _ => lifted os started H enc)
end Go.Proofs.Ytbonfgnmipmmbaa.filesMany
namespace Go.Proofs.Ytbonfgnmipmmbaa
theorem filesMany_holds : Rows.FilesManySaid := filesMany.proved
end Go.Proofs.Ytbonfgnmipmmbaa
