/- Proves EditsReplayUptoSaid: the law EditsReplay returns true wherever what comes in is of bulk at most 1048576, never panics, and every argument reads behind the call as before. Conditions: none beside the statement. -/
import Derived.Test.YtjlhookdigbjhaaRows
import Derived.Test.YtjlhookdigbjhaaEA
import Derived.Test.YtjlhookdigbjhaaEgC
import Derived.Test.YtjlhookdigbjhaaSxR
import Derived.Test.YtjlhookdigbjhaaGnR
import Derived.Test.YtjlhookdigbjhaaRowBulk
import Derived.Test.YtjlhookdigbjhaaGnW
namespace Go.Proofs.Ytjlhookdigbjhaa.editsReplay
open Go Go.ChangeShapes Go.WideShapes Go.ChangeAt Go.RowKit
open Go.Proofs.Ytjlhookdigbjhaa.Sx Go.Proofs.Ytjlhookdigbjhaa.E1 Go.Proofs.Ytjlhookdigbjhaa.S1 Go.Proofs.Ytjlhookdigbjhaa.E2 Go.Proofs.Ytjlhookdigbjhaa.E3 Go.Proofs.Ytjlhookdigbjhaa.E4 Go.Proofs.Ytjlhookdigbjhaa.E5 Go.Proofs.Ytjlhookdigbjhaa.E6 Go.Proofs.Ytjlhookdigbjhaa.E7 Go.Proofs.Ytjlhookdigbjhaa.E8 Go.Proofs.Ytjlhookdigbjhaa.E9 Go.Proofs.Ytjlhookdigbjhaa.EA
set_option linter.unusedVariables false
theorem own : ownKnob Try.prog.godebug = none := by kernel_rfl
theorem laidOut : laidOutB Try.prog = true := by kernel_rfl
def wf24 (B : Nat) (a : apiRef) : Prop := (fun s : Str => s.length ≤ B) a.Name ∧ InI a.Kind ∧ InI a.From ∧ InI a.To ∧ True
set_option maxRecDepth 100000 in
theorem dn24 {W : World} {B : Nat} : Db Try.prog W B 24 tapiRef (wf24 B) := fun enc sp hd fuel cs x h hB => by
  obtain ⟨hl, hf⟩ := Db.field Try.underlying24 h hB
  rw [show Try.prog.cellsOf 24 = 4 by kernel_rfl] at hl
  obtain ⟨u0, u1, u2, u3, rfl⟩ : ∃ u0 u1 u2 u3, cs = [u0, u1, u2, u3] := by
    match cs, hl with
    | [u0, u1, u2, u3], _ => exact ⟨u0, u1, u2, u3, rfl⟩
  obtain ⟨a0, r0, w0⟩ := hf 0 _ _ _ _ rfl (Db.str Try.underlying9)
  have c0 : Try.prog.cellsOf 9 = 1 := by kernel_rfl
  have r0' : (tS).R (hp W) [u0] a0 := by
    have h : (tS).R (hp W) ((List.drop 0 [u0, u1, u2, u3]).take (Try.prog.cellsOf 9)) a0 := r0
    rw [c0] at h
    exact h
  obtain ⟨a1, r1, w1⟩ := hf 1 _ _ _ _ rfl (Db.of (Dn.i64 Try.underlying22))
  have c1 : Try.prog.cellsOf 22 = 1 := by kernel_rfl
  have r1' : (tI).R (hp W) [u1] a1 := by
    have h : (tI).R (hp W) ((List.drop 1 [u0, u1, u2, u3]).take (Try.prog.cellsOf 22)) a1 := r1
    rw [c1] at h
    exact h
  obtain ⟨a2, r2, w2⟩ := hf 2 _ _ _ _ rfl (Db.of (Dn.i64 Try.underlying3))
  have c2 : Try.prog.cellsOf 3 = 1 := by kernel_rfl
  have r2' : (tI).R (hp W) [u2] a2 := by
    have h : (tI).R (hp W) ((List.drop 2 [u0, u1, u2, u3]).take (Try.prog.cellsOf 3)) a2 := r2
    rw [c2] at h
    exact h
  obtain ⟨a3, r3, w3⟩ := hf 3 _ _ _ _ rfl (Db.of (Dn.i64 Try.underlying3))
  have c3 : Try.prog.cellsOf 3 = 1 := by kernel_rfl
  have r3' : (tI).R (hp W) [u3] a3 := by
    have h : (tI).R (hp W) ((List.drop 3 [u0, u1, u2, u3]).take (Try.prog.cellsOf 3)) a3 := r3
    rw [c3] at h
    exact h
  obtain rfl := (List.cons.inj r0').1
  obtain rfl := (List.cons.inj r1').1
  obtain rfl := (List.cons.inj r2').1
  obtain rfl := (List.cons.inj r3').1
  exact ⟨⟨a0, a1, a2, a3⟩, rfl, ⟨w0, w1, w2, w3, trivial⟩⟩
def wf32 (B : Nat) (a : law10Step) : Prop := (fun xs : List UInt8 => (∀ x ∈ xs, (fun _ : UInt8 => True) x) ∧ xs.length ≤ B) a.Add ∧ (fun xs : List UInt8 => (∀ x ∈ xs, (fun _ : UInt8 => True) x) ∧ xs.length ≤ B) a.Drop ∧ (fun _ : UInt8 => True) a.Floor ∧ (fun _ : Bool => True) a.Odd ∧ (wf24 B) a.Any ∧ True
set_option maxRecDepth 100000 in
theorem dn32 {W : World} {B : Nat} : Db Try.prog W B 32 tlaw10Step (wf32 B) := fun enc sp hd fuel cs x h hB => by
  obtain ⟨hl, hf⟩ := Db.field Try.underlying32 h hB
  rw [show Try.prog.cellsOf 32 = 8 by kernel_rfl] at hl
  obtain ⟨u0, u1, u2, u3, u4, u5, u6, u7, rfl⟩ : ∃ u0 u1 u2 u3 u4 u5 u6 u7, cs = [u0, u1, u2, u3, u4, u5, u6, u7] := by
    match cs, hl with
    | [u0, u1, u2, u3, u4, u5, u6, u7], _ => exact ⟨u0, u1, u2, u3, u4, u5, u6, u7, rfl⟩
  obtain ⟨a0, r0, w0⟩ := hf 0 _ _ _ _ rfl (Db.slice Try.underlying30 (Db.of (Dn.u8 Try.underlying5)) (by kernel_rfl) (by decide))
  have c0 : Try.prog.cellsOf 30 = 1 := by kernel_rfl
  have r0' : ((tSl tU8)).R (hp W) [u0] a0 := by
    have h : ((tSl tU8)).R (hp W) ((List.drop 0 [u0, u1, u2, u3, u4, u5, u6, u7]).take (Try.prog.cellsOf 30)) a0 := r0
    rw [c0] at h
    exact h
  obtain ⟨a1, r1, w1⟩ := hf 1 _ _ _ _ rfl (Db.slice Try.underlying30 (Db.of (Dn.u8 Try.underlying5)) (by kernel_rfl) (by decide))
  have c1 : Try.prog.cellsOf 30 = 1 := by kernel_rfl
  have r1' : ((tSl tU8)).R (hp W) [u1] a1 := by
    have h : ((tSl tU8)).R (hp W) ((List.drop 1 [u0, u1, u2, u3, u4, u5, u6, u7]).take (Try.prog.cellsOf 30)) a1 := r1
    rw [c1] at h
    exact h
  obtain ⟨a2, r2, w2⟩ := hf 2 _ _ _ _ rfl (Db.of (Dn.u8 Try.underlying5))
  have c2 : Try.prog.cellsOf 5 = 1 := by kernel_rfl
  have r2' : (tU8).R (hp W) [u2] a2 := by
    have h : (tU8).R (hp W) ((List.drop 2 [u0, u1, u2, u3, u4, u5, u6, u7]).take (Try.prog.cellsOf 5)) a2 := r2
    rw [c2] at h
    exact h
  obtain ⟨a3, r3, w3⟩ := hf 3 _ _ _ _ rfl (Db.of (Dn.bool Try.underlying4))
  have c3 : Try.prog.cellsOf 4 = 1 := by kernel_rfl
  have r3' : (tB).R (hp W) [u3] a3 := by
    have h : (tB).R (hp W) ((List.drop 3 [u0, u1, u2, u3, u4, u5, u6, u7]).take (Try.prog.cellsOf 4)) a3 := r3
    rw [c3] at h
    exact h
  obtain ⟨a4, r4, w4⟩ := hf 4 _ _ _ _ rfl (dn24)
  have c4 : Try.prog.cellsOf 24 = 4 := by kernel_rfl
  have r4' : (tapiRef).R (hp W) [u4, u5, u6, u7] a4 := by
    have h : (tapiRef).R (hp W) ((List.drop 4 [u0, u1, u2, u3, u4, u5, u6, u7]).take (Try.prog.cellsOf 24)) a4 := r4
    rw [c4] at h
    exact h
  obtain ⟨A0, c0', e0, f0⟩ := r0'
  cases e0
  obtain ⟨A1, c1', e1, f1⟩ := r1'
  cases e1
  obtain rfl := (List.cons.inj r2').1
  obtain rfl := (List.cons.inj r3').1
  have q4 := r4'
  simp only [tapiRef, List.cons.injEq, and_true] at q4
  obtain ⟨rfl, rfl, rfl, rfl⟩ := q4
  exact ⟨⟨a0, a1, a2, a3, a4⟩, ⟨A0, c0', A1, c1', rfl, f0, f1⟩, ⟨w0, w1, w2, w3, w4, trivial⟩⟩
set_option maxRecDepth 100000 in
set_option maxHeartbeats 2000000 in
theorem contract (H : Type) (enc : TypeId × Value → H) (W : World) (base : Nat) (args : Array Value) (ds gs : List (DataW H)) (before : List MemPlace)
    (hval : ∀ (j : Nat) t v, Try.f10.params[j]? = some t → args[j]? = some v → Value.okWide Try.prog W .any base t v)
    (hW : DataW.Whole enc Try.prog Try.f10.params.toList Rows.editsReplaySpec.vars false W args.toList ds gs before) (hk : Rows.uptoSmall H (ds ++ gs) = true) :
    Calls Try.prog 10 args W fun e W' => ∃ v, e = .returned v ∧ Rows.editsReplaySpec.post enc Try.prog Try.f10 false true false false W args v W' := by
  have hW' := hW
  obtain ⟨p, q, hA0, hV, rfl, hfz, hnd⟩ := hW
  have hA : DataW.TrodAll enc Try.prog W 0 (fun _ => true) true Try.f10.params.toList args.toList ds p := hA0
  rw [Try.params10] at hA hval
  obtain ⟨v0, vs0, d0, ds0, p0, q0, hargs, rfl, rfl, h0, r0⟩ := trodAll_cons hA
  obtain ⟨v1, vs1, d1, ds1, p1, q1, rfl, rfl, rfl, h1, r1⟩ := trodAll_cons r0
  obtain ⟨v2, vs2, d2, ds2, p2, q2, rfl, rfl, rfl, h2, r2⟩ := trodAll_cons r1
  obtain ⟨rfl, rfl, rfl⟩ := trodAll_nil r2
  obtain rfl : args = #[v0, v1, v2] := by cases args; simp_all
  obtain ⟨rfl, rfl⟩ := trodVars_none hV
  have k0 := h0
  have lt0 : ∀ x ∈ p0, x.block < W.heap.size := by obtain ⟨m, hm⟩ := k0; exact DataW.trod_lt m _ _ _ hm
  have hv0 := hval 0 36 v0 rfl rfl
  obtain ⟨x0, l0, c0, rfl⟩ := okWide_slice Try.underlying36 hv0
  obtain ⟨m0, hm0⟩ := h0
  obtain ⟨a0, ⟨A0, C0, e0, f0⟩, w0⟩ := (Db.slice Try.underlying36 (dn32) (by kernel_rfl) (by decide)) _ _ _ _ _ _ hm0 (Nat.le_trans (Bulk.part_le (l := [d0, d1, d2]) (by simp)) (Bulk.bound (by simpa using hk)))
  obtain ⟨rfl, rfl, rfl⟩ := Value.slice.inj (List.cons.inj e0).1
  have k1 := h1
  have lt1 : ∀ x ∈ p1, x.block < W.heap.size := by obtain ⟨m, hm⟩ := k1; exact DataW.trod_lt m _ _ _ hm
  have hv1 := hval 1 52 v1 rfl rfl
  obtain ⟨x1, rfl⟩ := okWide_int Try.underlying52 hv1
  obtain ⟨m1, hm1⟩ := h1
  obtain ⟨a1, e1, w1⟩ := (Db.of (Dn.u16 Try.underlying52)) _ _ _ _ _ _ hm1 (Nat.le_trans (Bulk.part_le (l := [d0, d1, d2]) (by simp)) (Bulk.bound (by simpa using hk)))
  obtain rfl := (Value.int.inj (List.cons.inj e1).1).2
  have k2 := h2
  have lt2 : ∀ x ∈ p2, x.block < W.heap.size := by obtain ⟨m, hm⟩ := k2; exact DataW.trod_lt m _ _ _ hm
  have hv2 := hval 2 30 v2 rfl rfl
  obtain ⟨x2, l2, c2, rfl⟩ := okWide_slice Try.underlying30 hv2
  obtain ⟨m2, hm2⟩ := h2
  obtain ⟨a2, ⟨A2, C2, e2, f2⟩, w2⟩ := (Db.slice Try.underlying30 (Db.of (Dn.u8 Try.underlying5)) (by kernel_rfl) (by decide)) _ _ _ _ _ _ hm2 (Nat.le_trans (Bulk.part_le (l := [d0, d1, d2]) (by simp)) (Bulk.bound (by simpa using hk)))
  obtain ⟨rfl, rfl, rfl⟩ := Value.slice.inj (List.cons.inj e2).1
  refine (EA.go_law10_EditsReplay.walk (St.start W) f0 f2 (Eg.editsReplay a0 a1 a2 (fun x hx => (w0.1 x hx).2.2.2.2.1.1) w2.2)).mono fun e W' ⟨z', he, hle, hst⟩ => ?_
  have bel : Below W.heap.size W W' := St.below hst hle
  subst he
  exact ⟨_, rfl, _, _, _, [], _, [], hW', trodAll_mk1 (shut_bool Try.underlying4 _), (trodAll_cons_mk (Below.trod laidOut (by kernel_rfl) (of_decide_eq_true (by kernel_rfl)) k0 bel lt0) (trodAll_cons_mk (Below.trod laidOut (by kernel_rfl) (of_decide_eq_true (by kernel_rfl)) k1 bel lt1) (trodAll_cons_mk (Below.trod laidOut (by kernel_rfl) (of_decide_eq_true (by kernel_rfl)) k2 bel lt2) trodAll_mk0))), rfl, bel.frame _, fun h => by cases h⟩
set_option maxRecDepth 100000 in
set_option maxHeartbeats 2000000 in
theorem lifted (os : Os) (started : os.Started) (H : Type) (enc : TypeId × Value → H) (F : Stop.Interp) :
    ReturnsInHanded {} Try.checked os 10 .any ((Rows.OpenSpec.upto Rows.editsReplaySpec).pre6 enc Try.prog Try.f10 Rows.editsReplayUptoRow.domain false) (((Rows.OpenSpec.upto Rows.editsReplaySpec).at F).post enc Try.prog Try.f10 false true false false) := by
  refine returnsInHanded_of_cond (C := Try.checked) (s := Rows.OpenSpec.upto Rows.editsReplaySpec) (k := Rows.uptoSmall) rfl own started (by kernel_rfl) Try.func10
    (OpenSpec.witness (enc := enc) (C := Try.checked) (s := Rows.OpenSpec.upto Rows.editsReplaySpec) (k := Rows.uptoSmall) rfl false ⟨#[], #[.slice none 0 0, .int .u16 0, .slice none 0 0], []⟩ 8 (by kernel_rfl) (by kernel_rfl) (by kernel_rfl)
      (x := ([.nil, .lit (.int .u16 0), .nil], [], [])) (by kernel_rfl) rfl (by kernel_rfl)) ?_
  intro W base args ds gs before hval hW _ hk _
  exact contract H enc W base args ds gs before hval hW hk
theorem proved : Rows.EditsReplayUptoSaid :=
  OpenClaim.holds_of_cond 10 Try.f10 rfl rfl rfl rfl rfl rfl rfl ⟨rfl, rfl, rfl, rfl, rfl⟩ rfl rfl rfl rfl rfl (by kernel_rfl) Try.func10 (by kernel_rfl)
    (of_decide_eq_true (by kernel_rfl)) (by unfold Func.isWrapper; first | (rw [if_pos (by decide +kernel)]; kernel_rfl) | (rw [if_neg (by decide +kernel)]; exact ⟨rfl, rfl⟩))
    (fun os started H enc _ F => lifted os started H enc F)
end Go.Proofs.Ytjlhookdigbjhaa.editsReplay
namespace Go.Proofs.Ytjlhookdigbjhaa
theorem editsReplayUpto_holds : Rows.EditsReplayUptoSaid := editsReplay.proved
end Go.Proofs.Ytjlhookdigbjhaa
