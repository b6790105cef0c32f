/- Proves VaultBeginsCardSaid, the tied card: the law VaultBegins returns true at every input, never panics, and every argument reads behind the call as before. Conditions: none beside the statement (the listed tables of the library's are tied to the program's text by the given tie). -/
import Derived.Deep.DeepHandedRow
import Derived.Lay
import Derived.LaidOnce
import Derived.SevenTiedAt
import Derived.Test.YtiekoeapmhhjbaaGreatDoorRows
import Derived.Test.YtiekoeapmhhjbaaGreatDoorCards
import Derived.Test.YtiekoeapmhhjbaaGreatDoorTie
import Derived.Test.YtiekoeapmhhjbaaGreatDoorVG
import Derived.Test.YtiekoeapmhhjbaaGreatDoorXR
import Derived.Test.YtiekoeapmhhjbaaGreatDoorVaultBeginsF
import Derived.Test.YtiekoeapmhhjbaaGreatDoorSxR
namespace Go.Proofs.YtiekoeapmhhjbaaGreatDoor.vaultBegins
open Go Go.ChangeShapes Go.WideShapes Go.ChangeAt Go.RowKit
open Go.Proofs.YtiekoeapmhhjbaaGreatDoor.Sx
set_option linter.unusedVariables false
theorem own : ownKnob Tryz.prog.godebug = none := by kernel_rfl
theorem laidOut : laidOutB Tryz.prog = true := by kernel_rfl
set_option maxRecDepth 100000 in
set_option maxHeartbeats 2000000 in
theorem contract (H : Type) (enc : TypeId × Value → H) (W : World) (base : Nat) (args : Array Value) (ds gs : List (DataW H)) (before : List MemPlace)
    (hval : ∀ (j : Nat) t v, Tryz.f3.params[j]? = some t → args[j]? = some v → Value.okWide Tryz.prog W .any base t v)
    (hW : DataW.Whole enc Tryz.prog Tryz.f3.params.toList Rows.vaultBeginsSpec.vars false W args.toList ds gs before) (hL : laidMetH Tryz.prog Rows.vaultBeginsRow.laid W) :
    Calls Tryz.prog 3 args W fun e W' => ∃ v, e = .returned v ∧ Rows.vaultBeginsSpec.post enc Tryz.prog Tryz.f3 false true false false W args v W' := by
  have hW' := hW
  obtain ⟨p, q, hA0, hV, rfl, hfz, hnd⟩ := hW
  have hA : DataW.TrodAll enc Tryz.prog W 0 (fun _ => true) true Tryz.f3.params.toList args.toList ds p := hA0
  rw [Tryz.params3] at hA hval
  obtain ⟨v0, vs0, d0, ds0, p0, q0, hargs, rfl, rfl, h0, r0⟩ := trodAll_cons hA
  obtain ⟨v1, vs1, d1, ds1, p1, q1, rfl, rfl, rfl, h1, r1⟩ := trodAll_cons r0
  obtain ⟨v2, vs2, d2, ds2, p2, q2, rfl, rfl, rfl, h2, r2⟩ := trodAll_cons r1
  obtain ⟨v3, vs3, d3, ds3, p3, q3, rfl, rfl, rfl, h3, r3⟩ := trodAll_cons r2
  obtain ⟨rfl, rfl, rfl⟩ := trodAll_nil r3
  obtain rfl : args = #[v0, v1, v2, v3] := by cases args; simp_all
  obtain ⟨rfl, rfl⟩ := trodVars_none hV
  have k0 := h0
  have lt0 : ∀ x ∈ p0, x.block < W.heap.size := by obtain ⟨m, hm⟩ := k0; exact DataW.trod_lt m _ _ _ hm
  have hv0 := hval 0 5 v0 rfl rfl
  obtain ⟨x0, rfl⟩ := okWide_int Tryz.underlying5 hv0
  obtain ⟨m0, hm0⟩ := h0
  obtain ⟨a0, e0, w0⟩ := (XR.u8 Tryz.underlying5) _ _ _ _ _ _ hm0
  obtain rfl := (Value.int.inj (List.cons.inj e0).1).2
  have k1 := h1
  have lt1 : ∀ x ∈ p1, x.block < W.heap.size := by obtain ⟨m, hm⟩ := k1; exact DataW.trod_lt m _ _ _ hm
  have hv1 := hval 1 5 v1 rfl rfl
  obtain ⟨x1, rfl⟩ := okWide_int Tryz.underlying5 hv1
  obtain ⟨m1, hm1⟩ := h1
  obtain ⟨a1, e1, w1⟩ := (XR.u8 Tryz.underlying5) _ _ _ _ _ _ hm1
  obtain rfl := (Value.int.inj (List.cons.inj e1).1).2
  have k2 := h2
  have lt2 : ∀ x ∈ p2, x.block < W.heap.size := by obtain ⟨m, hm⟩ := k2; exact DataW.trod_lt m _ _ _ hm
  have hv2 := hval 2 5 v2 rfl rfl
  obtain ⟨x2, rfl⟩ := okWide_int Tryz.underlying5 hv2
  obtain ⟨m2, hm2⟩ := h2
  obtain ⟨a2, e2, w2⟩ := (XR.u8 Tryz.underlying5) _ _ _ _ _ _ hm2
  obtain rfl := (Value.int.inj (List.cons.inj e2).1).2
  have k3 := h3
  have lt3 : ∀ x ∈ p3, x.block < W.heap.size := by obtain ⟨m, hm⟩ := k3; exact DataW.trod_lt m _ _ _ hm
  have hv3 := hval 3 5 v3 rfl rfl
  obtain ⟨x3, rfl⟩ := okWide_int Tryz.underlying5 hv3
  obtain ⟨m3, hm3⟩ := h3
  obtain ⟨a3, e3, w3⟩ := (XR.u8 Tryz.underlying5) _ _ _ _ _ _ hm3
  obtain rfl := (Value.int.inj (List.cons.inj e3).1).2
  have hc : Calls Tryz.prog 3 #[.int .u8 x0, .int .u8 x1, .int .u8 x2, .int .u8 x3] W fun x W' => x = .returned (.bool true) ∧ Below W.heap.size W W' := X.vaultBegins_calls (XR.start hL) x0 x1 x2 x3 w0.1 w0.2 w1.1 w1.2 w2.1 w2.2 w3.1 w3.2
  refine hc.mono fun e W' hx => ?_
  obtain ⟨he, bel⟩ := hx
  subst he
  exact ⟨_, rfl, _, _, _, [], _, [], hW', trodAll_mk1 (shut_bool Tryz.underlying4 _), (trodAll_cons_mk (Below.trod laidOut (by kernel_rfl) (of_decide_eq_true (by kernel_rfl)) k0 bel lt0) (trodAll_cons_mk (Below.trod laidOut (by kernel_rfl) (of_decide_eq_true (by kernel_rfl)) k1 bel lt1) (trodAll_cons_mk (Below.trod laidOut (by kernel_rfl) (of_decide_eq_true (by kernel_rfl)) k2 bel lt2) (trodAll_cons_mk (Below.trod laidOut (by kernel_rfl) (of_decide_eq_true (by kernel_rfl)) k3 bel lt3) trodAll_mk0)))), rfl, bel.frame _, fun h => by cases h⟩
theorem laid_met (os : Os) : laidMetH Tryz.prog Rows.vaultBeginsRow.laid ((World.laidAll Tryz.prog os Rows.vaultBeginsRow.laid).forCall (fun _ _ => 0) ⟨#[], #[.int .u8 0, .int .u8 0, .int .u8 0, .int .u8 0], []⟩).memory := by
  rw [MakeChecks.laidMetH_plain _ _ _ (by kernel_rfl)]
  exact laidMet_laidAll _ (by kernel_rfl) (by kernel_rfl)
theorem reads (os : Os) {H : Type} (enc : TypeId × Value → H) : ∃ places, DataW.whole enc Tryz.prog ((World.laidAll Tryz.prog os Rows.vaultBeginsRow.laid).forCall (fun _ _ => 0) ⟨#[], #[.int .u8 0, .int .u8 0, .int .u8 0, .int .u8 0], []⟩).memory Tryz.f3.params.toList Rows.vaultBeginsSpec.vars false #[(.int .u8 0 : Value), .int .u8 0, .int .u8 0, .int .u8 0].toList 8 = some ([.lit (.int .u8 0), .lit (.int .u8 0), .lit (.int .u8 0), .lit (.int .u8 0)], [], places) :=
  ⟨[], by kernel_rfl⟩
set_option maxRecDepth 100000 in
theorem lifted (os : Os) (started : os.Started) (H : Type) (enc : TypeId × Value → H) (F : Stop.Interp) :
    ReturnsInHanded {} Tryz.checked os 3 .any ((OpenSpec.ofChange Rows.vaultBeginsSpec).preRow enc Tryz.prog Tryz.f3 Rows.vaultBeginsRow.domain false Rows.vaultBeginsRow.laid) (((OpenSpec.ofChange Rows.vaultBeginsSpec).at F).post enc Tryz.prog Tryz.f3 false true false false) := by
  obtain ⟨places, hx⟩ := reads os enc
  refine returnsInHanded_of_row (C := Tryz.checked) (s := (OpenSpec.ofChange Rows.vaultBeginsSpec)) own started (by kernel_rfl) Tryz.func3
    (XR.witness_row_shaped (enc := enc) (C := Tryz.checked) false (World.laidAll Tryz.prog os Rows.vaultBeginsRow.laid) #[.int .u8 0, .int .u8 0, .int .u8 0, .int .u8 0] (World.laidAll_os _ _ _) (World.shaped_of_ZipB (by kernel_rfl) (by kernel_rfl)) (by kernel_rfl)
      (OpenSpec.preRow_of_cond 8 hx (by kernel_rfl) (fun k hk => by cases hk) (by kernel_rfl) (laid_met os))) ?_
  intro W base args ds gs before hval hW _ _ _ hL _ _
  exact contract H enc W base args ds gs before hval hW hL
theorem said : Rows.VaultBeginsSaid :=
  OpenClaim.holds_of_cond 3 Tryz.f3 rfl rfl rfl rfl rfl rfl rfl ⟨rfl, rfl, rfl, rfl, rfl⟩ rfl rfl rfl rfl rfl (by kernel_rfl) Tryz.func3 F.closed
    (of_decide_eq_true (by kernel_rfl)) (by unfold Func.isWrapper; first | (rw [if_pos (by decide +kernel)]; kernel_rfl) | (rw [if_neg (by decide +kernel)]; exact ⟨rfl, rfl⟩))
    (fun os started H enc _ F => by rw [OpenClaim.pre_eq_preRow]; exact lifted os started H enc F)
theorem plain (f : FuncId) (fn : Func) (hf : Tryz.pinned.checked.prog.funcNamed "tephra/tephralaw12.VaultBegins" = some f) (hfn : Tryz.pinned.checked.prog.funcs[f]? = some fn) :
    true = Tryz.pinned.checked.prog.looks [] ∧ ∀ (j : Nat) t, fn.params[j]? = some t → Tryz.pinned.checked.prog.wantsStandIn t = false := by
  obtain rfl : f = 3 := Option.some.inj ((show Tryz.prog.funcNamed "tephra/tephralaw12.VaultBegins" = some 3 by kernel_rfl).symm.trans hf) |>.symm
  obtain rfl : fn = Tryz.f3 := (Option.some.inj (Tryz.func3.symm.trans hfn)).symm
  refine ⟨by kernel_rfl, fun j t ht => ?_⟩
  rw [Tryz.params3] at ht
  have hm : t ∈ [5] := by have h := Array.mem_of_getElem? ht; simp at h ⊢; omega
  have hall : ([5].all fun u => !Tryz.prog.wantsStandIn u) = true := by kernel_rfl
  exact (show Tryz.prog.wantsStandIn t = false by simpa using List.all_eq_true.1 hall t hm)
theorem proved : Rows.VaultBeginsCardSaid :=
  Claim7.holds_tied_plain_at .later [] _ _ _ _ said (fun _ h => by cases h) (by kernel_rfl) (fun _ h => by cases h) vaultBegins_row_tie rfl ⟨rfl, rfl⟩ (by kernel_rfl) rfl plain (by kernel_rfl)
end Go.Proofs.YtiekoeapmhhjbaaGreatDoor.vaultBegins
namespace Go.Proofs.YtiekoeapmhhjbaaGreatDoor
theorem vaultBegins_card_holds : Rows.VaultBeginsCardSaid := vaultBegins.proved
end Go.Proofs.YtiekoeapmhhjbaaGreatDoor
