/- Proves EditsBytesUptoSaid: the law EditsBytes returns true wherever what comes in is of bulk at most 1048576, never panics, and every argument reads behind the call as before. Conditions: none beside the statement. -/
import Derived.Test.YtjlhookdigbjhaaRows
import Derived.Test.YtjlhookdigbjhaaE6
import Derived.Test.YtjlhookdigbjhaaEfE
import Derived.Test.YtjlhookdigbjhaaSxR
import Derived.Test.YtjlhookdigbjhaaGnR
import Derived.Test.YtjlhookdigbjhaaRowBulk
import Derived.Test.YtjlhookdigbjhaaGnW
namespace Go.Proofs.Ytjlhookdigbjhaa.editsBytes
open Go Go.ChangeShapes Go.WideShapes Go.ChangeAt Go.RowKit
open Go.Proofs.Ytjlhookdigbjhaa.Sx Go.Proofs.Ytjlhookdigbjhaa.E1 Go.Proofs.Ytjlhookdigbjhaa.S1 Go.Proofs.Ytjlhookdigbjhaa.E2 Go.Proofs.Ytjlhookdigbjhaa.E3 Go.Proofs.Ytjlhookdigbjhaa.E4 Go.Proofs.Ytjlhookdigbjhaa.E5 Go.Proofs.Ytjlhookdigbjhaa.E6
set_option linter.unusedVariables false
theorem own : ownKnob Try.prog.godebug = none := by kernel_rfl
theorem laidOut : laidOutB Try.prog = true := by kernel_rfl
def wf24 (B : Nat) (a : apiRef) : Prop := (fun s : Str => s.length ≤ B) a.Name ∧ InI a.Kind ∧ InI a.From ∧ InI a.To ∧ True
set_option maxRecDepth 100000 in
theorem dn24 {W : World} {B : Nat} : Db Try.prog W B 24 tapiRef (wf24 B) := fun enc sp hd fuel cs x h hB => by
  obtain ⟨hl, hf⟩ := Db.field Try.underlying24 h hB
  rw [show Try.prog.cellsOf 24 = 4 by kernel_rfl] at hl
  obtain ⟨u0, u1, u2, u3, rfl⟩ : ∃ u0 u1 u2 u3, cs = [u0, u1, u2, u3] := by
    match cs, hl with
    | [u0, u1, u2, u3], _ => exact ⟨u0, u1, u2, u3, rfl⟩
  obtain ⟨a0, r0, w0⟩ := hf 0 _ _ _ _ rfl (Db.str Try.underlying9)
  have c0 : Try.prog.cellsOf 9 = 1 := by kernel_rfl
  have r0' : (tS).R (hp W) [u0] a0 := by
    have h : (tS).R (hp W) ((List.drop 0 [u0, u1, u2, u3]).take (Try.prog.cellsOf 9)) a0 := r0
    rw [c0] at h
    exact h
  obtain ⟨a1, r1, w1⟩ := hf 1 _ _ _ _ rfl (Db.of (Dn.i64 Try.underlying22))
  have c1 : Try.prog.cellsOf 22 = 1 := by kernel_rfl
  have r1' : (tI).R (hp W) [u1] a1 := by
    have h : (tI).R (hp W) ((List.drop 1 [u0, u1, u2, u3]).take (Try.prog.cellsOf 22)) a1 := r1
    rw [c1] at h
    exact h
  obtain ⟨a2, r2, w2⟩ := hf 2 _ _ _ _ rfl (Db.of (Dn.i64 Try.underlying3))
  have c2 : Try.prog.cellsOf 3 = 1 := by kernel_rfl
  have r2' : (tI).R (hp W) [u2] a2 := by
    have h : (tI).R (hp W) ((List.drop 2 [u0, u1, u2, u3]).take (Try.prog.cellsOf 3)) a2 := r2
    rw [c2] at h
    exact h
  obtain ⟨a3, r3, w3⟩ := hf 3 _ _ _ _ rfl (Db.of (Dn.i64 Try.underlying3))
  have c3 : Try.prog.cellsOf 3 = 1 := by kernel_rfl
  have r3' : (tI).R (hp W) [u3] a3 := by
    have h : (tI).R (hp W) ((List.drop 3 [u0, u1, u2, u3]).take (Try.prog.cellsOf 3)) a3 := r3
    rw [c3] at h
    exact h
  obtain rfl := (List.cons.inj r0').1
  obtain rfl := (List.cons.inj r1').1
  obtain rfl := (List.cons.inj r2').1
  obtain rfl := (List.cons.inj r3').1
  exact ⟨⟨a0, a1, a2, a3⟩, rfl, ⟨w0, w1, w2, w3, trivial⟩⟩
def wf32 (B : Nat) (a : law10Step) : Prop := (fun xs : List UInt8 => (∀ x ∈ xs, (fun _ : UInt8 => True) x) ∧ xs.length ≤ B) a.Add ∧ (fun xs : List UInt8 => (∀ x ∈ xs, (fun _ : UInt8 => True) x) ∧ xs.length ≤ B) a.Drop ∧ (fun _ : UInt8 => True) a.Floor ∧ (fun _ : Bool => True) a.Odd ∧ (wf24 B) a.Any ∧ True
set_option maxRecDepth 100000 in
theorem dn32 {W : World} {B : Nat} : Db Try.prog W B 32 tlaw10Step (wf32 B) := fun enc sp hd fuel cs x h hB => by
  obtain ⟨hl, hf⟩ := Db.field Try.underlying32 h hB
  rw [show Try.prog.cellsOf 32 = 8 by kernel_rfl] at hl
  obtain ⟨u0, u1, u2, u3, u4, u5, u6, u7, rfl⟩ : ∃ u0 u1 u2 u3 u4 u5 u6 u7, cs = [u0, u1, u2, u3, u4, u5, u6, u7] := by
    match cs, hl with
    | [u0, u1, u2, u3, u4, u5, u6, u7], _ => exact ⟨u0, u1, u2, u3, u4, u5, u6, u7, rfl⟩
  obtain ⟨a0, r0, w0⟩ := hf 0 _ _ _ _ rfl (Db.slice Try.underlying30 (Db.of (Dn.u8 Try.underlying5)) (by kernel_rfl) (by decide))
  have c0 : Try.prog.cellsOf 30 = 1 := by kernel_rfl
  have r0' : ((tSl tU8)).R (hp W) [u0] a0 := by
    have h : ((tSl tU8)).R (hp W) ((List.drop 0 [u0, u1, u2, u3, u4, u5, u6, u7]).take (Try.prog.cellsOf 30)) a0 := r0
    rw [c0] at h
    exact h
  obtain ⟨a1, r1, w1⟩ := hf 1 _ _ _ _ rfl (Db.slice Try.underlying30 (Db.of (Dn.u8 Try.underlying5)) (by kernel_rfl) (by decide))
  have c1 : Try.prog.cellsOf 30 = 1 := by kernel_rfl
  have r1' : ((tSl tU8)).R (hp W) [u1] a1 := by
    have h : ((tSl tU8)).R (hp W) ((List.drop 1 [u0, u1, u2, u3, u4, u5, u6, u7]).take (Try.prog.cellsOf 30)) a1 := r1
    rw [c1] at h
    exact h
  obtain ⟨a2, r2, w2⟩ := hf 2 _ _ _ _ rfl (Db.of (Dn.u8 Try.underlying5))
  have c2 : Try.prog.cellsOf 5 = 1 := by kernel_rfl
  have r2' : (tU8).R (hp W) [u2] a2 := by
    have h : (tU8).R (hp W) ((List.drop 2 [u0, u1, u2, u3, u4, u5, u6, u7]).take (Try.prog.cellsOf 5)) a2 := r2
    rw [c2] at h
    exact h
  obtain ⟨a3, r3, w3⟩ := hf 3 _ _ _ _ rfl (Db.of (Dn.bool Try.underlying4))
  have c3 : Try.prog.cellsOf 4 = 1 := by kernel_rfl
  have r3' : (tB).R (hp W) [u3] a3 := by
    have h : (tB).R (hp W) ((List.drop 3 [u0, u1, u2, u3, u4, u5, u6, u7]).take (Try.prog.cellsOf 4)) a3 := r3
    rw [c3] at h
    exact h
  obtain ⟨a4, r4, w4⟩ := hf 4 _ _ _ _ rfl (dn24)
  have c4 : Try.prog.cellsOf 24 = 4 := by kernel_rfl
  have r4' : (tapiRef).R (hp W) [u4, u5, u6, u7] a4 := by
    have h : (tapiRef).R (hp W) ((List.drop 4 [u0, u1, u2, u3, u4, u5, u6, u7]).take (Try.prog.cellsOf 24)) a4 := r4
    rw [c4] at h
    exact h
  obtain ⟨A0, c0', e0, f0⟩ := r0'
  cases e0
  obtain ⟨A1, c1', e1, f1⟩ := r1'
  cases e1
  obtain rfl := (List.cons.inj r2').1
  obtain rfl := (List.cons.inj r3').1
  have q4 := r4'
  simp only [tapiRef, List.cons.injEq, and_true] at q4
  obtain ⟨rfl, rfl, rfl, rfl⟩ := q4
  exact ⟨⟨a0, a1, a2, a3, a4⟩, ⟨A0, c0', A1, c1', rfl, f0, f1⟩, ⟨w0, w1, w2, w3, w4, trivial⟩⟩
def wf29 (B : Nat) (a : editsEdit) : Prop := (fun xs : List apiRef => (∀ x ∈ xs, (wf24 B) x) ∧ xs.length ≤ B) a.Add ∧ (fun xs : List Str => (∀ x ∈ xs, (fun s : Str => s.length ≤ B) x) ∧ xs.length ≤ B) a.Drop ∧ InI a.Floor ∧ True
set_option maxRecDepth 100000 in
theorem dn29 {W : World} {B : Nat} : Db Try.prog W B 29 teditsEdit (wf29 B) := fun enc sp hd fuel cs x h hB => by
  obtain ⟨hl, hf⟩ := Db.field Try.underlying29 h hB
  rw [show Try.prog.cellsOf 29 = 3 by kernel_rfl] at hl
  obtain ⟨u0, u1, u2, rfl⟩ : ∃ u0 u1 u2, cs = [u0, u1, u2] := by
    match cs, hl with
    | [u0, u1, u2], _ => exact ⟨u0, u1, u2, rfl⟩
  obtain ⟨a0, r0, w0⟩ := hf 0 _ _ _ _ rfl (Db.slice Try.underlying26 (dn24) (by kernel_rfl) (by decide))
  have c0 : Try.prog.cellsOf 26 = 1 := by kernel_rfl
  have r0' : ((tSl tapiRef)).R (hp W) [u0] a0 := by
    have h : ((tSl tapiRef)).R (hp W) ((List.drop 0 [u0, u1, u2]).take (Try.prog.cellsOf 26)) a0 := r0
    rw [c0] at h
    exact h
  obtain ⟨a1, r1, w1⟩ := hf 1 _ _ _ _ rfl (Db.slice Try.underlying27 (Db.str Try.underlying9) (by kernel_rfl) (by decide))
  have c1 : Try.prog.cellsOf 27 = 1 := by kernel_rfl
  have r1' : ((tSl tS)).R (hp W) [u1] a1 := by
    have h : ((tSl tS)).R (hp W) ((List.drop 1 [u0, u1, u2]).take (Try.prog.cellsOf 27)) a1 := r1
    rw [c1] at h
    exact h
  obtain ⟨a2, r2, w2⟩ := hf 2 _ _ _ _ rfl (Db.of (Dn.i64 Try.underlying3))
  have c2 : Try.prog.cellsOf 3 = 1 := by kernel_rfl
  have r2' : (tI).R (hp W) [u2] a2 := by
    have h : (tI).R (hp W) ((List.drop 2 [u0, u1, u2]).take (Try.prog.cellsOf 3)) a2 := r2
    rw [c2] at h
    exact h
  obtain ⟨A0, c0', e0, f0⟩ := r0'
  cases e0
  obtain ⟨A1, c1', e1, f1⟩ := r1'
  cases e1
  obtain rfl := (List.cons.inj r2').1
  exact ⟨⟨a0, a1, a2⟩, ⟨A0, c0', A1, c1', rfl, f0, f1⟩, ⟨w0, w1, w2, trivial⟩⟩
set_option maxRecDepth 100000 in
set_option maxHeartbeats 2000000 in
theorem contract (H : Type) (enc : TypeId × Value → H) (W : World) (base : Nat) (args : Array Value) (ds gs : List (DataW H)) (before : List MemPlace)
    (hval : ∀ (j : Nat) t v, Try.f7.params[j]? = some t → args[j]? = some v → Value.okWide Try.prog W .any base t v)
    (hW : DataW.Whole enc Try.prog Try.f7.params.toList Rows.editsBytesSpec.vars false W args.toList ds gs before) (hk : Rows.uptoSmall H (ds ++ gs) = true) :
    Calls Try.prog 7 args W fun e W' => ∃ v, e = .returned v ∧ Rows.editsBytesSpec.post enc Try.prog Try.f7 false true false false W args v W' := by
  have hW' := hW
  obtain ⟨p, q, hA0, hV, rfl, hfz, hnd⟩ := hW
  have hA : DataW.TrodAll enc Try.prog W 0 (fun _ => true) true Try.f7.params.toList args.toList ds p := hA0
  rw [Try.params7] at hA hval
  obtain ⟨v0, vs0, d0, ds0, p0, q0, hargs, rfl, rfl, h0, r0⟩ := trodAll_cons hA
  obtain ⟨v1, vs1, d1, ds1, p1, q1, rfl, rfl, rfl, h1, r1⟩ := trodAll_cons r0
  obtain ⟨rfl, rfl, rfl⟩ := trodAll_nil r1
  obtain rfl : args = #[v0, v1] := by cases args; simp_all
  obtain ⟨rfl, rfl⟩ := trodVars_none hV
  have k0 := h0
  have lt0 : ∀ x ∈ p0, x.block < W.heap.size := by obtain ⟨m, hm⟩ := k0; exact DataW.trod_lt m _ _ _ hm
  have hv0 := hval 0 36 v0 rfl rfl
  obtain ⟨x0, l0, c0, rfl⟩ := okWide_slice Try.underlying36 hv0
  obtain ⟨m0, hm0⟩ := h0
  obtain ⟨a0, ⟨A0, C0, e0, f0⟩, w0⟩ := (Db.slice Try.underlying36 (dn32) (by kernel_rfl) (by decide)) _ _ _ _ _ _ hm0 (Nat.le_trans (Bulk.part_le (l := [d0, d1]) (by simp)) (Bulk.bound (by simpa using hk)))
  obtain ⟨rfl, rfl, rfl⟩ := Value.slice.inj (List.cons.inj e0).1
  have k1 := h1
  have lt1 : ∀ x ∈ p1, x.block < W.heap.size := by obtain ⟨m, hm⟩ := k1; exact DataW.trod_lt m _ _ _ hm
  have hv1 := hval 1 29 v1 rfl rfl
  obtain ⟨x1, rfl, hs1⟩ := okWide_struct Try.underlying29 hv1
  obtain ⟨m1, hm1⟩ := h1
  obtain ⟨a1, e1, w1⟩ := (dn29) _ _ _ _ _ _ hm1 (Nat.le_trans (Bulk.part_le (l := [d0, d1]) (by simp)) (Bulk.bound (by simpa using hk)))
  obtain ⟨A1_0, C1_0, A1_1, C1_1, e1, f1_0, f1_1⟩ := e1
  obtain ⟨x1⟩ := x1
  obtain rfl : x1 = _ := e1
  refine (E6.go_law10_EditsBytes.walk (St.start W) f0 f1_0 f1_1 (Ef.editsBytes a0 a1 w0.2 (fun x hx => (w0.1 x hx).2.2.2.2.1.1) (fun x hx => (w1.1.1 x hx).1) (fun x hx => w1.2.1.1 x hx))).mono fun e W' ⟨z', he, hle, hst⟩ => ?_
  have bel : Below W.heap.size W W' := St.below hst hle
  subst he
  exact ⟨_, rfl, _, _, _, [], _, [], hW', trodAll_mk1 (shut_bool Try.underlying4 _), (trodAll_cons_mk (Below.trod laidOut (by kernel_rfl) (of_decide_eq_true (by kernel_rfl)) k0 bel lt0) (trodAll_cons_mk (Below.trod laidOut (by kernel_rfl) (of_decide_eq_true (by kernel_rfl)) k1 bel lt1) trodAll_mk0)), rfl, bel.frame _, fun h => by cases h⟩
set_option maxRecDepth 100000 in
set_option maxHeartbeats 2000000 in
theorem lifted (os : Os) (started : os.Started) (H : Type) (enc : TypeId × Value → H) (F : Stop.Interp) :
    ReturnsInHanded {} Try.checked os 7 .any ((Rows.OpenSpec.upto Rows.editsBytesSpec).pre6 enc Try.prog Try.f7 Rows.editsBytesUptoRow.domain false) (((Rows.OpenSpec.upto Rows.editsBytesSpec).at F).post enc Try.prog Try.f7 false true false false) := by
  refine returnsInHanded_of_cond (C := Try.checked) (s := Rows.OpenSpec.upto Rows.editsBytesSpec) (k := Rows.uptoSmall) rfl own started (by kernel_rfl) Try.func7
    (OpenSpec.witness (enc := enc) (C := Try.checked) (s := Rows.OpenSpec.upto Rows.editsBytesSpec) (k := Rows.uptoSmall) rfl false ⟨#[], #[.slice none 0 0, .agg #[.slice none 0 0, .slice none 0 0, .int .i64 0]], []⟩ 8 (by kernel_rfl) (by kernel_rfl) (by kernel_rfl)
      (x := ([.nil, .agg [.nil, .nil, .lit (.int .i64 0)]], [], [])) (by kernel_rfl) rfl (by kernel_rfl)) ?_
  intro W base args ds gs before hval hW _ hk _
  exact contract H enc W base args ds gs before hval hW hk
theorem proved : Rows.EditsBytesUptoSaid :=
  OpenClaim.holds_of_cond 7 Try.f7 rfl rfl rfl rfl rfl rfl rfl ⟨rfl, rfl, rfl, rfl, rfl⟩ rfl rfl rfl rfl rfl (by kernel_rfl) Try.func7 (by kernel_rfl)
    (of_decide_eq_true (by kernel_rfl)) (by unfold Func.isWrapper; first | (rw [if_pos (by decide +kernel)]; kernel_rfl) | (rw [if_neg (by decide +kernel)]; exact ⟨rfl, rfl⟩))
    (fun os started H enc _ F => lifted os started H enc F)
end Go.Proofs.Ytjlhookdigbjhaa.editsBytes
namespace Go.Proofs.Ytjlhookdigbjhaa
theorem editsBytesUpto_holds : Rows.EditsBytesUptoSaid := editsBytes.proved
end Go.Proofs.Ytjlhookdigbjhaa
