/- Proves ViewStateUptoCardSaid, the tied card: the law ViewState returns true wherever what comes in is of bulk at most 1048576, never panics, and every argument reads behind the call as before. Conditions: none beside the statement (the listed tables of the library's are tied to the program's text by the given tie). -/
import Derived.Deep.DeepHandedRow
import Derived.Lay
import Derived.LaidOnce
import Derived.SevenTiedAt
import Derived.Test.YtfomkndngnfneaaDoorRows
import Derived.Test.YtfomkndngnfneaaDoorCards
import Derived.Test.YtfomkndngnfneaaDoorTie
import Derived.Test.YtfomkndngnfneaaDoorV6
import Derived.Test.YtfomkndngnfneaaDoorVL
import Derived.Test.YtfomkndngnfneaaDoorViD
import Derived.Test.YtfomkndngnfneaaDoorGnX
import Derived.Test.YtfomkndngnfneaaDoorSxR
import Derived.Test.YtfomkndngnfneaaDoorGnR
import Derived.Test.YtfomkndngnfneaaDoorRowBulk
import Derived.Test.YtfomkndngnfneaaDoorGnW
namespace Go.Proofs.YtfomkndngnfneaaDoor.viewState
open Go Go.ChangeShapes Go.WideShapes Go.ChangeAt Go.RowKit
open Go.Proofs.YtfomkndngnfneaaDoor.Sx Go.Proofs.YtfomkndngnfneaaDoor.V1 Go.Proofs.YtfomkndngnfneaaDoor.V2 Go.Proofs.YtfomkndngnfneaaDoor.V3 Go.Proofs.YtfomkndngnfneaaDoor.V4 Go.Proofs.YtfomkndngnfneaaDoor.V5 Go.Proofs.YtfomkndngnfneaaDoor.V6
set_option linter.unusedVariables false
theorem own : ownKnob Tryd.prog.godebug = none := by kernel_rfl
theorem laidOut : laidOutB Tryd.prog = true := by kernel_rfl
def wf88 (B : Nat) (a : law06Say) : Prop := (fun _ : UInt8 => True) a.Op ∧ (fun _ : UInt8 => True) a.Client ∧ (fun _ : UInt8 => True) a.Seq ∧ (fun _ : UInt8 => True) a.Key ∧ (fun _ : UInt8 => True) a.Value ∧ (fun _ : UInt8 => True) a.Old ∧ True
set_option maxRecDepth 100000 in
theorem dn88 {W : World} {B : Nat} : Db Tryd.prog W B 88 tlaw06Say (wf88 B) := fun enc sp hd fuel cs x h hB => by
  obtain ⟨hl, hf⟩ := Db.field Tryd.underlying88 h hB
  rw [show Tryd.prog.cellsOf 88 = 6 by kernel_rfl] at hl
  obtain ⟨u0, u1, u2, u3, u4, u5, rfl⟩ : ∃ u0 u1 u2 u3 u4 u5, cs = [u0, u1, u2, u3, u4, u5] := by
    match cs, hl with
    | [u0, u1, u2, u3, u4, u5], _ => exact ⟨u0, u1, u2, u3, u4, u5, rfl⟩
  obtain ⟨a0, r0, w0⟩ := hf 0 _ _ _ _ rfl (Db.of (Dn.u8 Tryd.underlying5))
  have c0 : Tryd.prog.cellsOf 5 = 1 := by kernel_rfl
  have r0' : (tU8).R (hp W) [u0] a0 := by
    have h : (tU8).R (hp W) ((List.drop 0 [u0, u1, u2, u3, u4, u5]).take (Tryd.prog.cellsOf 5)) a0 := r0
    rw [c0] at h
    exact h
  obtain ⟨a1, r1, w1⟩ := hf 1 _ _ _ _ rfl (Db.of (Dn.u8 Tryd.underlying5))
  have c1 : Tryd.prog.cellsOf 5 = 1 := by kernel_rfl
  have r1' : (tU8).R (hp W) [u1] a1 := by
    have h : (tU8).R (hp W) ((List.drop 1 [u0, u1, u2, u3, u4, u5]).take (Tryd.prog.cellsOf 5)) a1 := r1
    rw [c1] at h
    exact h
  obtain ⟨a2, r2, w2⟩ := hf 2 _ _ _ _ rfl (Db.of (Dn.u8 Tryd.underlying5))
  have c2 : Tryd.prog.cellsOf 5 = 1 := by kernel_rfl
  have r2' : (tU8).R (hp W) [u2] a2 := by
    have h : (tU8).R (hp W) ((List.drop 2 [u0, u1, u2, u3, u4, u5]).take (Tryd.prog.cellsOf 5)) a2 := r2
    rw [c2] at h
    exact h
  obtain ⟨a3, r3, w3⟩ := hf 3 _ _ _ _ rfl (Db.of (Dn.u8 Tryd.underlying5))
  have c3 : Tryd.prog.cellsOf 5 = 1 := by kernel_rfl
  have r3' : (tU8).R (hp W) [u3] a3 := by
    have h : (tU8).R (hp W) ((List.drop 3 [u0, u1, u2, u3, u4, u5]).take (Tryd.prog.cellsOf 5)) a3 := r3
    rw [c3] at h
    exact h
  obtain ⟨a4, r4, w4⟩ := hf 4 _ _ _ _ rfl (Db.of (Dn.u8 Tryd.underlying5))
  have c4 : Tryd.prog.cellsOf 5 = 1 := by kernel_rfl
  have r4' : (tU8).R (hp W) [u4] a4 := by
    have h : (tU8).R (hp W) ((List.drop 4 [u0, u1, u2, u3, u4, u5]).take (Tryd.prog.cellsOf 5)) a4 := r4
    rw [c4] at h
    exact h
  obtain ⟨a5, r5, w5⟩ := hf 5 _ _ _ _ rfl (Db.of (Dn.u8 Tryd.underlying5))
  have c5 : Tryd.prog.cellsOf 5 = 1 := by kernel_rfl
  have r5' : (tU8).R (hp W) [u5] a5 := by
    have h : (tU8).R (hp W) ((List.drop 5 [u0, u1, u2, u3, u4, u5]).take (Tryd.prog.cellsOf 5)) a5 := r5
    rw [c5] at h
    exact h
  obtain rfl := (List.cons.inj r0').1
  obtain rfl := (List.cons.inj r1').1
  obtain rfl := (List.cons.inj r2').1
  obtain rfl := (List.cons.inj r3').1
  obtain rfl := (List.cons.inj r4').1
  obtain rfl := (List.cons.inj r5').1
  exact ⟨⟨a0, a1, a2, a3, a4, a5⟩, rfl, ⟨w0, w1, w2, w3, w4, w5, trivial⟩⟩
def wf49 (B : Nat) (a : apiPair) : Prop := (fun s : Str => s.length ≤ B) a.Key ∧ (fun s : Str => s.length ≤ B) a.Value ∧ (fun _ : Bool => True) a.Gone ∧ True
set_option maxRecDepth 100000 in
theorem dn49 {W : World} {B : Nat} : Db Tryd.prog W B 49 tapiPair (wf49 B) := fun enc sp hd fuel cs x h hB => by
  obtain ⟨hl, hf⟩ := Db.field Tryd.underlying49 h hB
  rw [show Tryd.prog.cellsOf 49 = 3 by kernel_rfl] at hl
  obtain ⟨u0, u1, u2, rfl⟩ : ∃ u0 u1 u2, cs = [u0, u1, u2] := by
    match cs, hl with
    | [u0, u1, u2], _ => exact ⟨u0, u1, u2, rfl⟩
  obtain ⟨a0, r0, w0⟩ := hf 0 _ _ _ _ rfl (Db.str Tryd.underlying9)
  have c0 : Tryd.prog.cellsOf 9 = 1 := by kernel_rfl
  have r0' : (tS).R (hp W) [u0] a0 := by
    have h : (tS).R (hp W) ((List.drop 0 [u0, u1, u2]).take (Tryd.prog.cellsOf 9)) a0 := r0
    rw [c0] at h
    exact h
  obtain ⟨a1, r1, w1⟩ := hf 1 _ _ _ _ rfl (Db.str Tryd.underlying9)
  have c1 : Tryd.prog.cellsOf 9 = 1 := by kernel_rfl
  have r1' : (tS).R (hp W) [u1] a1 := by
    have h : (tS).R (hp W) ((List.drop 1 [u0, u1, u2]).take (Tryd.prog.cellsOf 9)) a1 := r1
    rw [c1] at h
    exact h
  obtain ⟨a2, r2, w2⟩ := hf 2 _ _ _ _ rfl (Db.of (Dn.bool Tryd.underlying4))
  have c2 : Tryd.prog.cellsOf 4 = 1 := by kernel_rfl
  have r2' : (tB).R (hp W) [u2] a2 := by
    have h : (tB).R (hp W) ((List.drop 2 [u0, u1, u2]).take (Tryd.prog.cellsOf 4)) a2 := r2
    rw [c2] at h
    exact h
  obtain rfl := (List.cons.inj r0').1
  obtain rfl := (List.cons.inj r1').1
  obtain rfl := (List.cons.inj r2').1
  exact ⟨⟨a0, a1, a2⟩, rfl, ⟨w0, w1, w2, trivial⟩⟩
def wf84 (B : Nat) (a : apiReply) : Prop := InI a.Err ∧ (fun s : Str => s.length ≤ B) a.Value ∧ True
set_option maxRecDepth 100000 in
theorem dn84 {W : World} {B : Nat} : Db Tryd.prog W B 84 tapiReply (wf84 B) := fun enc sp hd fuel cs x h hB => by
  obtain ⟨hl, hf⟩ := Db.field Tryd.underlying84 h hB
  rw [show Tryd.prog.cellsOf 84 = 2 by kernel_rfl] at hl
  obtain ⟨u0, u1, rfl⟩ : ∃ u0 u1, cs = [u0, u1] := by
    match cs, hl with
    | [u0, u1], _ => exact ⟨u0, u1, rfl⟩
  obtain ⟨a0, r0, w0⟩ := hf 0 _ _ _ _ rfl (Db.of (Dn.i64 Tryd.underlying82))
  have c0 : Tryd.prog.cellsOf 82 = 1 := by kernel_rfl
  have r0' : (tI).R (hp W) [u0] a0 := by
    have h : (tI).R (hp W) ((List.drop 0 [u0, u1]).take (Tryd.prog.cellsOf 82)) a0 := r0
    rw [c0] at h
    exact h
  obtain ⟨a1, r1, w1⟩ := hf 1 _ _ _ _ rfl (Db.str Tryd.underlying9)
  have c1 : Tryd.prog.cellsOf 9 = 1 := by kernel_rfl
  have r1' : (tS).R (hp W) [u1] a1 := by
    have h : (tS).R (hp W) ((List.drop 1 [u0, u1]).take (Tryd.prog.cellsOf 9)) a1 := r1
    rw [c1] at h
    exact h
  obtain rfl := (List.cons.inj r0').1
  obtain rfl := (List.cons.inj r1').1
  exact ⟨⟨a0, a1⟩, rfl, ⟨w0, w1, trivial⟩⟩
def wf98 (B : Nat) (a : apiSession) : Prop := InI a.Client ∧ InI a.Seq ∧ (wf84 B) a.Reply ∧ True
set_option maxRecDepth 100000 in
theorem dn98 {W : World} {B : Nat} : Db Tryd.prog W B 98 tapiSession (wf98 B) := fun enc sp hd fuel cs x h hB => by
  obtain ⟨hl, hf⟩ := Db.field Tryd.underlying98 h hB
  rw [show Tryd.prog.cellsOf 98 = 4 by kernel_rfl] at hl
  obtain ⟨u0, u1, u2, u3, rfl⟩ : ∃ u0 u1 u2 u3, cs = [u0, u1, u2, u3] := by
    match cs, hl with
    | [u0, u1, u2, u3], _ => exact ⟨u0, u1, u2, u3, rfl⟩
  obtain ⟨a0, r0, w0⟩ := hf 0 _ _ _ _ rfl (Db.of (Dn.i64 Tryd.underlying3))
  have c0 : Tryd.prog.cellsOf 3 = 1 := by kernel_rfl
  have r0' : (tI).R (hp W) [u0] a0 := by
    have h : (tI).R (hp W) ((List.drop 0 [u0, u1, u2, u3]).take (Tryd.prog.cellsOf 3)) a0 := r0
    rw [c0] at h
    exact h
  obtain ⟨a1, r1, w1⟩ := hf 1 _ _ _ _ rfl (Db.of (Dn.i64 Tryd.underlying3))
  have c1 : Tryd.prog.cellsOf 3 = 1 := by kernel_rfl
  have r1' : (tI).R (hp W) [u1] a1 := by
    have h : (tI).R (hp W) ((List.drop 1 [u0, u1, u2, u3]).take (Tryd.prog.cellsOf 3)) a1 := r1
    rw [c1] at h
    exact h
  obtain ⟨a2, r2, w2⟩ := hf 2 _ _ _ _ rfl (dn84)
  have c2 : Tryd.prog.cellsOf 84 = 2 := by kernel_rfl
  have r2' : (tapiReply).R (hp W) [u2, u3] a2 := by
    have h : (tapiReply).R (hp W) ((List.drop 2 [u0, u1, u2, u3]).take (Tryd.prog.cellsOf 84)) a2 := r2
    rw [c2] at h
    exact h
  obtain rfl := (List.cons.inj r0').1
  obtain rfl := (List.cons.inj r1').1
  have q2 := r2'
  simp only [tapiReply, List.cons.injEq, and_true] at q2
  obtain ⟨rfl, rfl⟩ := q2
  exact ⟨⟨a0, a1, a2⟩, rfl, ⟨w0, w1, w2, trivial⟩⟩
def wf47 (B : Nat) (a : apiState) : Prop := InI a.Index ∧ InI a.Term ∧ (fun xs : List apiPair => (∀ x ∈ xs, (wf49 B) x) ∧ xs.length ≤ B) a.Pairs ∧ (fun xs : List apiSession => (∀ x ∈ xs, (wf98 B) x) ∧ xs.length ≤ B) a.Sessions ∧ True
set_option maxRecDepth 100000 in
theorem dn47 {W : World} {B : Nat} : Db Tryd.prog W B 47 tapiState (wf47 B) := fun enc sp hd fuel cs x h hB => by
  obtain ⟨hl, hf⟩ := Db.field Tryd.underlying47 h hB
  rw [show Tryd.prog.cellsOf 47 = 4 by kernel_rfl] at hl
  obtain ⟨u0, u1, u2, u3, rfl⟩ : ∃ u0 u1 u2 u3, cs = [u0, u1, u2, u3] := by
    match cs, hl with
    | [u0, u1, u2, u3], _ => exact ⟨u0, u1, u2, u3, rfl⟩
  obtain ⟨a0, r0, w0⟩ := hf 0 _ _ _ _ rfl (Db.of (Dn.i64 Tryd.underlying3))
  have c0 : Tryd.prog.cellsOf 3 = 1 := by kernel_rfl
  have r0' : (tI).R (hp W) [u0] a0 := by
    have h : (tI).R (hp W) ((List.drop 0 [u0, u1, u2, u3]).take (Tryd.prog.cellsOf 3)) a0 := r0
    rw [c0] at h
    exact h
  obtain ⟨a1, r1, w1⟩ := hf 1 _ _ _ _ rfl (Db.of (Dn.i64 Tryd.underlying3))
  have c1 : Tryd.prog.cellsOf 3 = 1 := by kernel_rfl
  have r1' : (tI).R (hp W) [u1] a1 := by
    have h : (tI).R (hp W) ((List.drop 1 [u0, u1, u2, u3]).take (Tryd.prog.cellsOf 3)) a1 := r1
    rw [c1] at h
    exact h
  obtain ⟨a2, r2, w2⟩ := hf 2 _ _ _ _ rfl (Db.slice Tryd.underlying44 (dn49) (by kernel_rfl) (by decide))
  have c2 : Tryd.prog.cellsOf 44 = 1 := by kernel_rfl
  have r2' : ((tSl tapiPair)).R (hp W) [u2] a2 := by
    have h : ((tSl tapiPair)).R (hp W) ((List.drop 2 [u0, u1, u2, u3]).take (Tryd.prog.cellsOf 44)) a2 := r2
    rw [c2] at h
    exact h
  obtain ⟨a3, r3, w3⟩ := hf 3 _ _ _ _ rfl (Db.slice Tryd.underlying45 (dn98) (by kernel_rfl) (by decide))
  have c3 : Tryd.prog.cellsOf 45 = 1 := by kernel_rfl
  have r3' : ((tSl tapiSession)).R (hp W) [u3] a3 := by
    have h : ((tSl tapiSession)).R (hp W) ((List.drop 3 [u0, u1, u2, u3]).take (Tryd.prog.cellsOf 45)) a3 := r3
    rw [c3] at h
    exact h
  obtain rfl := (List.cons.inj r0').1
  obtain rfl := (List.cons.inj r1').1
  obtain ⟨A2, c2', e2, f2⟩ := r2'
  cases e2
  obtain ⟨A3, c3', e3, f3⟩ := r3'
  cases e3
  exact ⟨⟨a0, a1, a2, a3⟩, ⟨A2, c2', A3, c3', rfl, f2, f3⟩, ⟨w0, w1, w2, w3, trivial⟩⟩
set_option maxRecDepth 100000 in
set_option maxHeartbeats 2000000 in
theorem contract (H : Type) (enc : TypeId × Value → H) (W : World) (base : Nat) (args : Array Value) (ds gs : List (DataW H)) (before : List MemPlace)
    (hval : ∀ (j : Nat) t v, Tryd.f5.params[j]? = some t → args[j]? = some v → Value.okWide Tryd.prog W .any base t v)
    (hW : DataW.Whole enc Tryd.prog Tryd.f5.params.toList Rows.viewStateSpec.vars false W args.toList ds gs before) (hk : Rows.uptoSmall H (ds ++ gs) = true) (hL : laidMetH Tryd.prog Rows.viewStateUptoRow.laid W) :
    Calls Tryd.prog 5 args W fun e W' => ∃ v, e = .returned v ∧ Rows.viewStateSpec.post enc Tryd.prog Tryd.f5 false true false false W args v W' := by
  have hW' := hW
  obtain ⟨p, q, hA0, hV, rfl, hfz, hnd⟩ := hW
  have hA : DataW.TrodAll enc Tryd.prog W 0 (fun _ => true) true Tryd.f5.params.toList args.toList ds p := hA0
  rw [Tryd.params5] at hA hval
  obtain ⟨v0, vs0, d0, ds0, p0, q0, hargs, rfl, rfl, h0, r0⟩ := trodAll_cons hA
  obtain ⟨v1, vs1, d1, ds1, p1, q1, rfl, rfl, rfl, h1, r1⟩ := trodAll_cons r0
  obtain ⟨v2, vs2, d2, ds2, p2, q2, rfl, rfl, rfl, h2, r2⟩ := trodAll_cons r1
  obtain ⟨rfl, rfl, rfl⟩ := trodAll_nil r2
  obtain rfl : args = #[v0, v1, v2] := by cases args; simp_all
  obtain ⟨rfl, rfl⟩ := trodVars_none hV
  have k0 := h0
  have lt0 : ∀ x ∈ p0, x.block < W.heap.size := by obtain ⟨m, hm⟩ := k0; exact DataW.trod_lt m _ _ _ hm
  have hv0 := hval 0 43 v0 rfl rfl
  obtain ⟨x0, l0, c0, rfl⟩ := okWide_slice Tryd.underlying43 hv0
  obtain ⟨m0, hm0⟩ := h0
  obtain ⟨a0, ⟨A0, C0, e0, f0⟩, w0⟩ := (Db.slice Tryd.underlying43 (dn88) (by kernel_rfl) (by decide)) _ _ _ _ _ _ hm0 (Nat.le_trans (Bulk.part_le (l := [d0, d1, d2]) (by simp)) (Bulk.bound (by simpa using hk)))
  obtain ⟨rfl, rfl, rfl⟩ := Value.slice.inj (List.cons.inj e0).1
  have k1 := h1
  have lt1 : ∀ x ∈ p1, x.block < W.heap.size := by obtain ⟨m, hm⟩ := k1; exact DataW.trod_lt m _ _ _ hm
  have hv1 := hval 1 47 v1 rfl rfl
  obtain ⟨x1, rfl, hs1⟩ := okWide_struct Tryd.underlying47 hv1
  obtain ⟨m1, hm1⟩ := h1
  obtain ⟨a1, e1, w1⟩ := (dn47) _ _ _ _ _ _ hm1 (Nat.le_trans (Bulk.part_le (l := [d0, d1, d2]) (by simp)) (Bulk.bound (by simpa using hk)))
  obtain ⟨A1_2, C1_2, A1_3, C1_3, e1, f1_2, f1_3⟩ := e1
  obtain ⟨x1⟩ := x1
  obtain rfl : x1 = _ := e1
  have k2 := h2
  have lt2 : ∀ x ∈ p2, x.block < W.heap.size := by obtain ⟨m, hm⟩ := k2; exact DataW.trod_lt m _ _ _ hm
  have hv2 := hval 2 5 v2 rfl rfl
  obtain ⟨x2, rfl⟩ := okWide_int Tryd.underlying5 hv2
  obtain ⟨m2, hm2⟩ := h2
  obtain ⟨a2, e2, w2⟩ := (Db.of (Dn.u8 Tryd.underlying5)) _ _ _ _ _ _ hm2 (Nat.le_trans (Bulk.part_le (l := [d0, d1, d2]) (by simp)) (Bulk.bound (by simpa using hk)))
  obtain rfl := (Value.int.inj (List.cons.inj e2).1).2
  refine (V6.go_law20_ViewState.walk (St.start W) f0 f1_2 f1_3 (VL.tb hL) (Vi.viewState a0 a1 a2 w1.1 w1.2.1 (fun p hp => ⟨Nat.le_trans (w1.2.2.1.1 p hp).1 (by decide), Nat.le_trans (w1.2.2.1.1 p hp).2.1 (by decide)⟩))).mono fun e W' ⟨z', he, hle, hst⟩ => ?_
  have bel : Below W.heap.size W W' := St.below hst hle
  subst he
  exact ⟨_, rfl, _, _, _, [], _, [], hW', trodAll_mk1 (shut_bool Tryd.underlying4 _), (trodAll_cons_mk (Below.trod laidOut (by kernel_rfl) (of_decide_eq_true (by kernel_rfl)) k0 bel lt0) (trodAll_cons_mk (Below.trod laidOut (by kernel_rfl) (of_decide_eq_true (by kernel_rfl)) k1 bel lt1) (trodAll_cons_mk (Below.trod laidOut (by kernel_rfl) (of_decide_eq_true (by kernel_rfl)) k2 bel lt2) trodAll_mk0))), rfl, bel.frame _, fun h => by cases h⟩
theorem laid_met (os : Os) : laidMetH Tryd.prog Rows.viewStateUptoRow.laid ((World.laidAll Tryd.prog os Rows.viewStateUptoRow.laid).forCall (fun _ _ => 0) ⟨#[], #[.slice none 0 0, .agg #[.int .i64 0, .int .i64 0, .slice none 0 0, .slice none 0 0], .int .u8 0], []⟩).memory := by
  rw [MakeChecks.laidMetH_plain _ _ _ (by kernel_rfl)]
  exact laidMet_laidAll _ (by kernel_rfl) (by kernel_rfl)
theorem reads (os : Os) {H : Type} (enc : TypeId × Value → H) : ∃ places, DataW.whole enc Tryd.prog ((World.laidAll Tryd.prog os Rows.viewStateUptoRow.laid).forCall (fun _ _ => 0) ⟨#[], #[.slice none 0 0, .agg #[.int .i64 0, .int .i64 0, .slice none 0 0, .slice none 0 0], .int .u8 0], []⟩).memory Tryd.f5.params.toList Rows.viewStateSpec.vars false #[.slice none 0 0, .agg #[.int .i64 0, .int .i64 0, .slice none 0 0, .slice none 0 0], .int .u8 0].toList 8 = some ([.nil, .agg [.lit (.int .i64 0), .lit (.int .i64 0), .nil, .nil], .lit (.int .u8 0)], [], places) :=
  ⟨[], by kernel_rfl⟩
set_option maxRecDepth 100000 in
theorem lifted (os : Os) (started : os.Started) (H : Type) (enc : TypeId × Value → H) (F : Stop.Interp) :
    ReturnsInHanded {} Tryd.checked os 5 .any ((Rows.OpenSpec.upto Rows.viewStateSpec).preRow enc Tryd.prog Tryd.f5 Rows.viewStateUptoRow.domain false Rows.viewStateUptoRow.laid) (((Rows.OpenSpec.upto Rows.viewStateSpec).at F).post enc Tryd.prog Tryd.f5 false true false false) := by
  obtain ⟨places, hx⟩ := reads os enc
  refine returnsInHanded_of_row (C := Tryd.checked) (s := (Rows.OpenSpec.upto Rows.viewStateSpec)) own started (by kernel_rfl) Tryd.func5
    (witness_row_shaped (enc := enc) (C := Tryd.checked) false (World.laidAll Tryd.prog os Rows.viewStateUptoRow.laid) #[.slice none 0 0, .agg #[.int .i64 0, .int .i64 0, .slice none 0 0, .slice none 0 0], .int .u8 0] (World.laidAll_os _ _ _) (World.shaped_of_ZipB (by kernel_rfl) (by kernel_rfl)) (by kernel_rfl)
      (OpenSpec.preRow_of_cond 8 hx (by kernel_rfl) (fun k hk => by cases hk; kernel_rfl) (by kernel_rfl) (laid_met os))) ?_
  intro W base args ds gs before hval hW _ hcond _ hL _ _
  exact contract H enc W base args ds gs before hval hW (hcond _ rfl) hL
theorem said : Rows.ViewStateUptoSaid :=
  OpenClaim.holds_of_cond 5 Tryd.f5 rfl rfl rfl rfl rfl rfl rfl ⟨rfl, rfl, rfl, rfl, rfl⟩ rfl rfl rfl rfl rfl (by kernel_rfl) Tryd.func5 (by kernel_rfl)
    (of_decide_eq_true (by kernel_rfl)) (by unfold Func.isWrapper; first | (rw [if_pos (by decide +kernel)]; kernel_rfl) | (rw [if_neg (by decide +kernel)]; exact ⟨rfl, rfl⟩))
    (fun os started H enc _ F => by rw [OpenClaim.pre_eq_preRow]; exact lifted os started H enc F)
theorem plain (f : FuncId) (fn : Func) (hf : Tryd.pinned.checked.prog.funcNamed "tephra/tephralaw20.ViewState" = some f) (hfn : Tryd.pinned.checked.prog.funcs[f]? = some fn) :
    false = Tryd.pinned.checked.prog.looks [] ∧ ∀ (j : Nat) t, fn.params[j]? = some t → Tryd.pinned.checked.prog.wantsStandIn t = false := by
  obtain rfl : f = 5 := Option.some.inj ((show Tryd.prog.funcNamed "tephra/tephralaw20.ViewState" = some 5 by kernel_rfl).symm.trans hf) |>.symm
  obtain rfl : fn = Tryd.f5 := (Option.some.inj (Tryd.func5.symm.trans hfn)).symm
  refine ⟨by kernel_rfl, fun j t ht => ?_⟩
  rw [Tryd.params5] at ht
  have hm : t ∈ [43, 47, 5] := by have h := Array.mem_of_getElem? ht; simp at h ⊢; omega
  have hall : ([43, 47, 5].all fun u => !Tryd.prog.wantsStandIn u) = true := by kernel_rfl
  exact (show Tryd.prog.wantsStandIn t = false by simpa using List.all_eq_true.1 hall t hm)
theorem proved : Rows.ViewStateUptoCardSaid :=
  Claim7.holds_tied_plain_at .later [] _ _ _ _ said (fun _ h => by cases h) (by kernel_rfl) (fun _ h => by cases h) viewStateUpto_row_tie rfl ⟨rfl, rfl⟩ (by kernel_rfl) rfl plain (by kernel_rfl)
end Go.Proofs.YtfomkndngnfneaaDoor.viewState
namespace Go.Proofs.YtfomkndngnfneaaDoor
theorem viewStateUpto_card_holds : Rows.ViewStateUptoCardSaid := viewState.proved
end Go.Proofs.YtfomkndngnfneaaDoor
