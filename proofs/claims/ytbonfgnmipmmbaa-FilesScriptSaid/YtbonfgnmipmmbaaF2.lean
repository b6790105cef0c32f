/- Files: a disk. -/
import Derived.Test.YtbonfgnmipmmbaaF1
namespace Go.Proofs.Ytbonfgnmipmmbaa.F2
open Go Go.RowKit Go.Proofs.Ytbonfgnmipmmbaa.Sx Go.Proofs.Ytbonfgnmipmmbaa.F1
set_option linter.unusedVariables false
set_option linter.unusedSimpArgs false
noncomputable section
theorem sz75 : (Try.prog.info? 75).map (·.size) = some 2 := by kernel_rfl
theorem zr75 : (Try.prog.info? 75).map (·.zero) = some (some (.agg #[.string ⟨#[]⟩, .pointer none])) := by kernel_rfl
theorem sz65 : (Try.prog.info? 65).map (·.size) = some 1 := by kernel_rfl
theorem sz66 : (Try.prog.info? 66).map (·.size) = some 1 := by kernel_rfl
theorem sz78 : (Try.prog.info? 78).map (·.size) = some 1 := by kernel_rfl
theorem zr78 : (Try.prog.info? 78).map (·.zero) = some (some (.slice none 0 0)) := by kernel_rfl
theorem inf78 : (Try.prog.info? 78).map (fun i => (i.zero, i.size, i.bytes)) = some (some (.slice none 0 0), 1, 24) := by kernel_rfl
theorem zr69 : (Try.prog.info? 69).map (·.zero) = some (some (.pointer none)) := by kernel_rfl
theorem zr73 : (Try.prog.info? 73).map (·.zero) = some (some (.agg #[.slice none 0 0, .int .i64 0])) := by kernel_rfl
theorem pl73 {fs : Array Field} (h : Try.prog.underlying 73 = some (.struct fs)) (w : World) : (fs.mapM fun f => do pure (f.offset, ← sizeOf f.type) : Sem (Array (Nat × Nat))).run Try.prog w = .ok #[(0, 1), (1, 1)] w := by
  rw [Try.underlying73] at h
  cases h
  kernel_rfl
def O1 : Zp → Nat → filesfile → List Res → Prop := fun ζ g x rs => ∃ (A0 : Option Addr) (c0 : Nat) (n0 : Nat) (d0 : List Value), Cs tU8 ζ d0 x.b_ ∧ x.b_.length = n0 ∧ rs = [blk g [.slice A0 n0 c0, vi x.safe_] 73, orow 5 1 (.slice A0 n0 c0) n0 d0]
theorem O1.mono : OMono O1 := by
  rintro ζ ζ' g x rs hl ⟨A0, c0, n0, d0, f0, hn0, rfl⟩
  exact ⟨A0, c0, n0, d0, f0.mono hl, hn0, rfl⟩
def Ar1 (ζ : Zp) (Γ : List Nat) (A : List filesfile) (Ha : List Res) : Prop := ArL O1 ζ Γ A Ha
theorem Ar1.mono {ζ ζ' : Zp} {Γ : List Nat} {A : List filesfile} {Ha : List Res} (h : Ar1 ζ Γ A Ha) (hl : Le ζ ζ') : Ar1 ζ' Γ A Ha := ArL.mono O1.mono hl h
theorem O1.blk : ∀ ζ g a rs, O1 ζ g a rs → ∃ c T, blk g c T ∈ rs := by
  rintro ζ g a rs ⟨A0, c0, n0, d0, f0, hn0, rfl⟩
  exact ⟨_, _, List.mem_cons_self ..⟩
theorem pl75 {fs : Array Field} (h : Try.prog.underlying 75 = some (.struct fs)) (w : World) : (fs.mapM fun f => do pure (f.offset, ← sizeOf f.type) : Sem (Array (Nat × Nat))).run Try.prog w = .ok #[(0, 1), (1, 1)] w := by
  rw [Try.underlying75] at h
  cases h
  kernel_rfl
theorem sz22 : (Try.prog.info? 22).map (·.size) = some 1 := by kernel_rfl
def go_files_Disk_set.b1 (i9 : Nat) (a9 : fileschange) : (Mp (Option Nat)) → (Mp (Option Nat) → Option filesDisk) → Option filesDisk :=
  fun mp42 nxb9 => (go_files_put mp42 a9).bind fun y51 => nxb9 y51
def go_files_Disk_set (p0 : filesDisk) (p1 : List fileschange) : Option filesDisk :=
  forL (go_files_Disk_set.b1) (fun mp42 => (apB 24 p0.wait_ [p1]).bind fun l54 => some (⟨mp42, p0.safe_, l54, p0.room_, p0.left_, p0.down_, p0.calls_⟩ : filesDisk)) 0 p1 p0.now_
set_option maxRecDepth 100000 in
set_option maxHeartbeats 4000000 in
theorem go_files_Disk_set.walk {w0 w : World} {Γ1 : List Nat} {X : List Res} {z0 : Zp} {p0 : filesDisk} {g0 : Nat} {gm1 : Nat} {E1 : Array MapEntry} {c1 : Nat} {gm2 : Nat} {E2 : Array MapEntry} {c2 : Nat} {A3 : Option Addr} {c3 : Nat} {d3 : List Value} {p1 : List fileschange} {A8 : Option Addr} {c8 : Nat} {r : filesDisk} (hst : Ht w0 (frz z0 :: (blk g0 [.map (some gm1), .map (some gm2), .slice A3 p0.wait_.length c3, vi p0.room_, vi p0.left_, vb p0.down_, vi p0.calls_] 68) :: (ob gm1 (.map E1 c1)) :: (ob gm2 (.map E2 c2)) :: (orow 78 1 (.slice A3 p0.wait_.length c3) p0.wait_.length d3) :: X) w) (f1 : Mr (tA Γ1) pk1 z0 E1 c1 p0.now_) (f2 : Mr (tA Γ1) pk1 z0 E2 c2 p0.safe_) (f3 : Cs (tSl (tfileschange Γ1)) z0 d3 p0.wait_) (f8 : Sl (tfileschange Γ1) z0 A8 c8 p1) (hf : go_files_Disk_set p0 p1 = some r) :
    Calls Try.prog 36 #[.pointer (some ⟨g0, 0, none⟩), .slice A8 p1.length c8] w fun e w' => ∃ (z' : Zp) (gm9001 : Nat) (E9001 : Array MapEntry) (c9001 : Nat) (gm9002 : Nat) (E9002 : Array MapEntry) (c9002 : Nat) (A9003 : Option Addr) (c9003 : Nat) (d9003 : List Value), e = .returned (.tuple #[]) ∧ Le z0 z' ∧ Mr (tA Γ1) pk1 z' E9001 c9001 r.now_ ∧ Mr (tA Γ1) pk1 z' E9002 c9002 r.safe_ ∧ Cs (tSl (tfileschange Γ1)) z' d9003 r.wait_ ∧ Ht w0 (frz z' :: (blk g0 [.map (some gm9001), .map (some gm9002), .slice A9003 r.wait_.length c9003, vi r.room_, vi r.left_, vb r.down_, vi r.calls_] 68) :: (ob gm9001 (.map E9001 c9001)) :: (ob gm9002 (.map E9002 c9002)) :: (orow 78 1 (.slice A9003 r.wait_.length c9003) r.wait_.length d9003) :: X) w' := by
  refine calls_np Try.func36 rfl rfl ?_
  have hle0 := Le.refl z0
  unfold go_files_Disk_set at hf
  refine Run.seq ?_
  refine Run.seq ?_
  refine Run.region ?_
  refine Ops.ex (Ex.move rfl) rfl rfl rfl ?_
  refine Ops.ex (Ex.len' rfl rfl rfl Try.underlying78) rfl rfl rfl ?_
  refine Ops.ex (Ex.move rfl) rfl rfl rfl ?_
  refine Ops.nil ?_
  refine Run.block ?_
  have hc9 := f8.cap
  refine Run.sub (e' := [(0, .pointer (some ⟨g0, 0, none⟩)), (1, .slice A8 p1.length c8), (6, .slice A8 p1.length c8), (7, vi (p1.length : Int)), (8, vi ((0 : Nat) : Int))]) (subB_spec ⟨rfl, rfl, rfl, rfl, rfl, trivial⟩) ?_
  refine Run.loop (fun mb9 => (fun e' w' => ∃ (i9 : Nat) (mp42 : Mp (Option Nat)) (g42 : Nat) (E42 : Array MapEntry) (c42 : Nat) (z41 : Zp), mb9 = p1.length - i9 ∧ i9 ≤ p1.length ∧ forL (go_files_Disk_set.b1) (fun mp42 => (apB 24 p0.wait_ [p1]).bind fun l54 => some (⟨mp42, p0.safe_, l54, p0.room_, p0.left_, p0.down_, p0.calls_⟩ : filesDisk)) i9 (p1.drop i9) mp42 = some r ∧ e' = [(0, .pointer (some ⟨g0, 0, none⟩)), (1, .slice A8 p1.length c8), (6, .slice A8 p1.length c8), (7, vi (p1.length : Int)), (8, vi (i9 : Int))] ∧ Le z0 z41 ∧ Mr (tA Γ1) pk1 z41 E42 c42 mp42 ∧ Ht w0 (frz z41 :: (ob g42 (.map E42 c42)) :: (blk g0 [.map (some g42), .map (some gm2), .slice A3 p0.wait_.length c3, vi p0.room_, vi p0.left_, vb p0.down_, vi p0.calls_] 68) :: (ob gm2 (.map E2 c2)) :: (orow 78 1 (.slice A3 p0.wait_.length c3) p0.wait_.length d3) :: X) w')) p1.length ⟨0, p0.now_, gm1, E1, c1, z0, rfl, Nat.zero_le _, hf, rfl, hle0, f1, (St.up (St.up (St.up (St.up (St.up hst 4 rfl) 4 rfl) 3 rfl) 4 rfl) 4 rfl)⟩ ?_
  rintro _ e' w43 ⟨i9, mp42, g42, E42, c42, z41, rfl, hi9, hf, rfl, hz43, f42, hst43⟩
  replace f8 := f8.mono hz43; replace f2 := f2.mono hz43; replace f3 := f3.mono hz43
  refine Run.seq ?_
  refine Run.region ?_
  refine Ops.ex (Ex.lss rfl rfl) rfl rfl rfl ?_
  refine Ops.nil ?_
  refine Run.seq ?_
  refine Run.cond rfl (fun hc => ?_) (fun hc => ?_)
  · have hl9 := lt_of_dec hc
    obtain ⟨a9, nxb9, ha9, hnxb9, hf⟩ := forL_in hf hl9
    unfold go_files_Disk_set.b1 at hf
    try dsimp only at hf
    refine Run.skip ?_
    refine Run.seq ?_
    refine Run.block ?_
    refine Run.seq ?_
    refine Run.region ?_
    obtain ⟨g46, p46, o46, cs46, hA46, ho46, hr46, f46⟩ := SlH.elem f8.toH (atI_nat ha9)
    obtain ⟨A45, rfl, f45⟩ := hr46
    refine Ops.ex (Ex.ixA hA46 ho46 (atI_nat ha9) rfl rfl rfl Try.underlying78 sz75) rfl rfl rfl ?_
    refine Ops.loadAgg [vs a9.name_, .pointer A45] rfl Try.underlying75 rfl sz75 rfl (cells_of_zc rfl (f46.mono hst43.le)) rfl ?_
    refine Ops.allocF [vs [], .pointer none] hst43 zr75 rfl rfl (fun g47 w47 hst47 => ?_)
    refine Ops.store 1 [vs a9.name_, .pointer A45] hst47 rfl rfl rfl rfl sz75 rfl (by simp [Value.oneCell']) (by simp) (fun w48 hst48 => ?_)
    refine Ops.nil ?_
    have hm50 := Le.refl z41
    refine Run.drawH [([], fun w => ∃ ζ Y, Le z41 ζ ∧ Ht w0 (frz ζ :: (blk g47 [vs a9.name_, .pointer A45] 75) :: (blk g0 [.map (some g42), .map (some gm2), .slice A3 p0.wait_.length c3, vi p0.room_, vi p0.left_, vb p0.down_, vi p0.calls_] 68) :: (ob gm2 (.map E2 c2)) :: (orow 78 1 (.slice A3 p0.wait_.length c3) p0.wait_.length d3) :: Y) w), ([5], fun w => ∃ ζ Y, Le z41 ζ ∧ Ht w0 (frz ζ :: (ob g42 (.map E42 c42)) :: Y) w)] (by kernel_rfl) hst48 (fun w49 hst49 => ?_)
    have hS0 := (⟨_, _, (Le.refl _), (St.up (St.up (St.up (St.up (St.up hst49 5 rfl) 5 rfl) 5 rfl) 4 rfl) 4 rfl)⟩ : (fun w => ∃ ζ Y, Le z41 ζ ∧ Ht w0 (frz ζ :: (blk g47 [vs a9.name_, .pointer A45] 75) :: (blk g0 [.map (some g42), .map (some gm2), .slice A3 p0.wait_.length c3, vi p0.room_, vi p0.left_, vb p0.down_, vi p0.calls_] 68) :: (ob gm2 (.map E2 c2)) :: (orow 78 1 (.slice A3 p0.wait_.length c3) p0.wait_.length d3) :: Y) w) _)
    have hS1 := (⟨_, _, (Le.refl _), (St.up (St.up hst49 2 rfl) 1 rfl)⟩ : (fun w => ∃ ζ Y, Le z41 ζ ∧ Ht w0 (frz ζ :: (ob g42 (.map E42 c42)) :: Y) w) _)
    refine Any.takeE 0 rfl rfl rfl rfl (by kernel_rfl) (fun _ _ _ _ _ h => h) ((Ex.move rfl).s) ?_
    refine Any.takeE 1 rfl rfl rfl rfl (by kernel_rfl) (fun _ _ _ _ _ h => h) ((Ex.nilCheck rfl).s) ?_
    refine Any.takeE 2 rfl rfl rfl rfl (by kernel_rfl) (fun _ _ _ _ _ h => h) ((Ex.fieldAddr rfl Try.underlying68 rfl sz65).s) ?_
    refine Any.take 0 3 rfl rfl rfl rfl rfl (by kernel_rfl) (fun _ _ _ _ _ h => h) (ExS.load rfl Try.underlying65 rfl (fun w hS => by obtain ⟨_, _, _, hs⟩ := hS; exact hs.cell (i := 2) rfl rfl)) hS0 ?_
    refine Any.take 0 4 rfl rfl rfl rfl rfl (by kernel_rfl) (fun _ _ _ _ _ h => h) (ExS.loadAgg [vs a9.name_, .pointer A45] rfl Try.underlying75 rfl sz75 rfl (fun w hS => by obtain ⟨_, _, _, hs⟩ := hS; exact hs.cells (i := 1) rfl 0 2)) hS0 ?_
    obtain ⟨y51, hy51, hf⟩ := bnd hf
    refine Any.one 5 (by kernel_rfl) rfl rfl (One.of_ops rfl ?_)
    refine Ops.call rfl rfl Try.func39 (by kernel_rfl) (by kernel_rfl) rfl (go_files_put.walk (Γ1 := Γ1) (p0 := mp42) (p1 := a9) (hst := (St.up (St.up (St.up (St.up (St.up (St.up hst49 5 rfl) 5 rfl) 5 rfl) 4 rfl) 5 rfl) 5 rfl)) (f1 := f42) (f3 := f45) (hf := hy51)) ?_
    rintro _ w51 ⟨z51, E52, c52, rfl, hz51, f52, hst51⟩
    refine ⟨_, rfl, Ops.stop ?_⟩
    replace f8 := f8.mono hz51; replace f46 := f46.mono hz51; replace f45 := f45.mono hz51; replace f2 := f2.mono hz51; replace f3 := f3.mono hz51
    replace hz43 := hz43.trans hz51
    replace hm50 := hm50.trans hz51
    have hS0 := (⟨_, _, hm50, (St.up (St.up (St.up (St.up (St.up hst51 5 rfl) 5 rfl) 5 rfl) 5 rfl) 4 rfl)⟩ : (fun w => ∃ ζ Y, Le z41 ζ ∧ Ht w0 (frz ζ :: (blk g47 [vs a9.name_, .pointer A45] 75) :: (blk g0 [.map (some g42), .map (some gm2), .slice A3 p0.wait_.length c3, vi p0.room_, vi p0.left_, vb p0.down_, vi p0.calls_] 68) :: (ob gm2 (.map E2 c2)) :: (orow 78 1 (.slice A3 p0.wait_.length c3) p0.wait_.length d3) :: Y) w) _)
    refine ⟨⟨.inr (fun _ => hS0), .inl (by decide), trivial⟩, ?_⟩
    refine Any.done (by kernel_rfl) ?_
    refine Run.endBlk ?_
    refine Run.region ?_
    refine Ops.ex (Ex.add rfl rfl) rfl rfl rfl ?_
    refine Ops.ex (Ex.move rfl) rfl rfl rfl ?_
    refine Ops.nil ?_
    refine Run.re 8 rfl (congrArg vi (wr_succ' hl9 hc9)) ?_
    exact Run.sub (by exact subB_spec ⟨rfl, rfl, rfl, rfl, rfl, trivial⟩) (Run.stop ⟨p1.length - (i9 + 1), by omega, i9 + 1, y51, g42, E52, c52, z51, rfl, by omega, (hnxb9 _).symm.trans hf, rfl, hz43, f52, (St.forget hst51 2)⟩)
  · replace hf := forL_out hf (nlt_of_dec hc)
    try dsimp only at hf
    refine Run.exit _ rfl ?_
    refine Run.region ?_
    refine Ops.ex (Ex.move rfl) rfl rfl rfl ?_
    refine Ops.ex (Ex.move rfl) rfl rfl rfl ?_
    refine Ops.ex (Ex.nilCheck rfl) rfl rfl rfl ?_
    refine Ops.ex (Ex.fieldAddr rfl Try.underlying68 rfl sz66) rfl rfl rfl ?_
    refine Ops.load rfl Try.underlying66 rfl (hst43.cell (i := 2) rfl rfl) rfl ?_
    refine Ops.ex (Ex.move rfl) rfl rfl rfl ?_
    refine Ops.sliceF [.slice A8 p1.length c8] hst43 rfl Try.underlying66 sz78 zr78 rfl rfl (by kernel_rfl) rfl (by simp [Value.oneCell']) rfl (fun A53 w53 hst53 => ?_)
    have f53 : Cs (tSl (tfileschange Γ1)) z41 [.slice A8 p1.length c8] [p1] := (Cs.cons (c := [.slice A8 p1.length c8]) ⟨_, _, rfl, f8⟩ (Cs.nil _ _))
    obtain ⟨l54, hy54, hf⟩ := bnd hf
    refine Ops.app 5 hst53 rfl f3 rfl (own_slh f53 rfl (hst53.get (i := 1) rfl)) rfl hy54 rfl rfl rfl rfl Try.underlying66 inf78 rfl (by first | decide | exact Nat.succ_pos _) (by first | decide | exact Nat.succ_pos _) rfl (fun A54 c54 d54 w54 f54 hst54 => ?_)
    refine Ops.ex (Ex.nilCheck rfl) rfl rfl rfl ?_
    refine Ops.ex (Ex.fieldAddr rfl Try.underlying68 rfl sz66) rfl rfl rfl ?_
    refine Ops.store 3 [.slice A54 l54.length c54] hst54 rfl rfl rfl rfl sz66 rfl (by simp [Value.oneCell']) (by simp) (fun w55 hst55 => ?_)
    refine Ops.nil ?_
    obtain rfl := Option.some.inj hf
    exact Run.doneV [] rfl trivial ⟨z41, g42, E42, c42, gm2, E2, c2, A54, c54, d54, rfl, hz43, f42, f2, f54, (St.up (St.up (St.up (St.up (St.up (St.forget hst55 1) 4 rfl) 4 rfl) 3 rfl) 4 rfl) 4 rfl)⟩
def go_files_Disk_Create (p0 : filesDisk) (p1 : Str) (ar1 : List filesfile) : Option (Int × filesDisk × List filesfile) :=
  if p0.down_ then (some (7, p0, ar1)) else (if (mget p0.now_ p1).isSome then (some (5, p0, ar1)) else (if 64 ≤ (p0.now_.length : Int) then (some (4, p0, ar1)) else ((go_files_Disk_call p0).bind fun y11 => if y11.1 then ((some (ar1 ++ [(⟨[], 0⟩ : filesfile)])).bind fun ar23 => (go_files_Disk_set y11.2 [(⟨p1, some ar1.length⟩ : fileschange)]).bind fun y25 => some (0, y25, ar23)) else (some (7, y11.2, ar1)))))
set_option maxRecDepth 100000 in
set_option maxHeartbeats 4000000 in
theorem go_files_Disk_Create.walk {w0 w : World} {Γ1 : List Nat} {X : List Res} {z0 : Zp} {p0 : filesDisk} {g0 : Nat} {gm1 : Nat} {E1 : Array MapEntry} {c1 : Nat} {gm2 : Nat} {E2 : Array MapEntry} {c2 : Nat} {A3 : Option Addr} {c3 : Nat} {d3 : List Value} {p1 : Str} {ar1 : List filesfile} {Ha1 : List Res} {r : Int × filesDisk × List filesfile} (hst : Ht w0 (frz z0 :: (blk g0 [.map (some gm1), .map (some gm2), .slice A3 p0.wait_.length c3, vi p0.room_, vi p0.left_, vb p0.down_, vi p0.calls_] 68) :: (ob gm1 (.map E1 c1)) :: (ob gm2 (.map E2 c2)) :: (orow 78 1 (.slice A3 p0.wait_.length c3) p0.wait_.length d3) :: (Ha1 ++ X)) w) (f1 : Mr (tA Γ1) pk1 z0 E1 c1 p0.now_) (f2 : Mr (tA Γ1) pk1 z0 E2 c2 p0.safe_) (f3 : Cs (tSl (tfileschange Γ1)) z0 d3 p0.wait_) (hA1 : Ar1 z0 Γ1 ar1 Ha1) (hf : go_files_Disk_Create p0 p1 ar1 = some r) :
    Calls Try.prog 13 #[.pointer (some ⟨g0, 0, none⟩), vs p1] w fun e w' => ∃ (z' : Zp) (gm9002 : Nat) (E9002 : Array MapEntry) (c9002 : Nat) (gm9003 : Nat) (E9003 : Array MapEntry) (c9003 : Nat) (A9004 : Option Addr) (c9004 : Nat) (d9004 : List Value) (Ha9009 : List Res) (Γn1 : List Nat), e = .returned (vi r.1) ∧ Le z0 z' ∧ Mr (tA Γn1) pk1 z' E9002 c9002 r.2.1.now_ ∧ Mr (tA Γn1) pk1 z' E9003 c9003 r.2.1.safe_ ∧ Cs (tSl (tfileschange Γn1)) z' d9004 r.2.1.wait_ ∧ Ar1 z' Γn1 r.2.2 Ha9009 ∧ Γ1 <+: Γn1 ∧ Ht w0 (frz z' :: (blk g0 [.map (some gm9002), .map (some gm9003), .slice A9004 r.2.1.wait_.length c9004, vi r.2.1.room_, vi r.2.1.left_, vb r.2.1.down_, vi r.2.1.calls_] 68) :: (ob gm9002 (.map E9002 c9002)) :: (ob gm9003 (.map E9003 c9003)) :: (orow 78 1 (.slice A9004 r.2.1.wait_.length c9004) r.2.1.wait_.length d9004) :: (Ha9009 ++ X)) w' := by
  refine calls_np Try.func13 rfl rfl ?_
  have hle0 := Le.refl z0
  unfold go_files_Disk_Create at hf
  have hGi1 := List.prefix_rfl (l := Γ1)
  refine Run.seq ?_
  refine Run.region ?_
  refine Ops.ex (Ex.assign rfl) rfl rfl rfl ?_
  refine Ops.nil ?_
  refine Run.seq ?_
  refine Run.seq ?_
  refine Run.region ?_
  refine Ops.ex (Ex.move rfl) rfl rfl rfl ?_
  refine Ops.ex (Ex.nilCheck rfl) rfl rfl rfl ?_
  refine Ops.ex (Ex.fieldAddr rfl Try.underlying68 rfl sz65) rfl rfl rfl ?_
  refine Ops.load rfl Try.underlying65 rfl (hst.cell (i := 1) rfl rfl) rfl ?_
  refine Ops.ex (Ex.move rfl) rfl rfl rfl ?_
  refine Ops.mlook (zcs := [.pointer none]) (s := p1) none (Mr.own f1 hst (i := 2) rfl) rfl rfl Try.underlying65 Try.underlying9 zr69 ⟨_, rfl, (PtA.nil _)⟩ rfl (fun cs9 hR9 => ?_)
  obtain ⟨A10, rfl, f10⟩ := hR9
  refine Ops.ex (Ex.move rfl) rfl rfl rfl ?_
  refine Ops.ex (Ex.extract rfl rfl) rfl rfl rfl ?_
  refine Ops.ex (Ex.extract rfl rfl) rfl rfl rfl ?_
  refine Ops.ex (Ex.assign rfl) rfl rfl rfl ?_
  refine Ops.ex (Ex.assign rfl) rfl rfl rfl ?_
  refine Ops.nil ?_
  refine Run.block ?_
  refine Run.seq ?_
  refine Run.region ?_
  refine Ops.ex (Ex.move rfl) rfl rfl rfl ?_
  refine Ops.ex (Ex.nilCheck rfl) rfl rfl rfl ?_
  refine Ops.ex (Ex.fieldAddr rfl Try.underlying68 rfl sz4) rfl rfl rfl ?_
  refine Ops.load rfl Try.underlying4 rfl (hst.cell (i := 1) rfl rfl) rfl ?_
  refine Ops.ex (Ex.assign rfl) rfl rfl rfl ?_
  refine Ops.nil ?_
  refine Run.cond rfl (fun hc => ?_) (fun hc => ?_)
  · replace hf := ifTb hc hf
    refine Run.seq ?_
    refine Run.region ?_
    refine Ops.ex (Ex.assign rfl) rfl rfl rfl ?_
    refine Ops.nil ?_
    obtain rfl := Option.some.inj hf
    exact Run.retV [vi 7] rfl ⟨rfl, trivial⟩ ⟨z0, gm1, E1, c1, gm2, E2, c2, A3, c3, d3, Ha1, Γ1, rfl, hle0, f1, f2, f3, hA1, hGi1, hst⟩
  · replace hf := ifFb hc hf
    refine Run.seq ?_
    refine Run.region ?_
    refine Ops.ex (Ex.move rfl) rfl rfl rfl ?_
    refine Ops.ex (Ex.assign rfl) rfl rfl rfl ?_
    refine Ops.nil ?_
    refine Run.cond rfl (fun hc => ?_) (fun hc => ?_)
    · replace hf := ifTb hc hf
      refine Run.seq ?_
      refine Run.region ?_
      refine Ops.ex (Ex.assign rfl) rfl rfl rfl ?_
      refine Ops.nil ?_
      obtain rfl := Option.some.inj hf
      exact Run.retV [vi 5] rfl ⟨rfl, trivial⟩ ⟨z0, gm1, E1, c1, gm2, E2, c2, A3, c3, d3, Ha1, Γ1, rfl, hle0, f1, f2, f3, hA1, hGi1, hst⟩
    · replace hf := ifFb hc hf
      refine Run.seq ?_
      refine Run.region ?_
      refine Ops.ex (Ex.move rfl) rfl rfl rfl ?_
      refine Ops.ex (Ex.nilCheck rfl) rfl rfl rfl ?_
      refine Ops.ex (Ex.fieldAddr rfl Try.underlying68 rfl sz65) rfl rfl rfl ?_
      refine Ops.load rfl Try.underlying65 rfl (hst.cell (i := 1) rfl rfl) rfl ?_
      refine Ops.mlen (Mr.own f1 hst (i := 2) rfl) rfl rfl rfl Try.underlying65 rfl (?_)
      refine Ops.ex (Ex.geq rfl rfl) rfl rfl rfl ?_
      refine Ops.ex (Ex.assign rfl) rfl rfl rfl ?_
      refine Ops.nil ?_
      refine Run.cond rfl (fun hc => ?_) (fun hc => ?_)
      · replace hf := ifT (dec_T hc) hf
        refine Run.seq ?_
        refine Run.region ?_
        refine Ops.ex (Ex.assign rfl) rfl rfl rfl ?_
        refine Ops.nil ?_
        obtain rfl := Option.some.inj hf
        exact Run.retV [vi 4] rfl ⟨rfl, trivial⟩ ⟨z0, gm1, E1, c1, gm2, E2, c2, A3, c3, d3, Ha1, Γ1, rfl, hle0, f1, f2, f3, hA1, hGi1, hst⟩
      · replace hf := ifF (dec_F hc) hf
        refine Run.seq ?_
        refine Run.region ?_
        refine Ops.ex (Ex.move rfl) rfl rfl rfl ?_
        obtain ⟨y11, hy11, hf⟩ := bnd hf
        refine Ops.call rfl rfl Try.func35 (by kernel_rfl) (by kernel_rfl) rfl (go_files_Disk_call.walk (Γ1 := Γ1) (p0 := p0) (hst := hst) (f1 := f1) (f2 := f2) (f3 := f3) (hf := hy11)) ?_
        rintro _ w11 ⟨z11, gm13, E13, c13, gm14, E14, c14, A15, c15, d15, rfl, hz11, f13, f14, f15, hst11⟩
        refine ⟨_, rfl, ?_⟩
        replace f10 := f10.mono hz11; replace hA1 := hA1.mono hz11
        replace hle0 := hle0.trans hz11
        refine Ops.ex (Ex.not rfl) rfl rfl rfl ?_
        refine Ops.ex (Ex.assign rfl) rfl rfl rfl ?_
        refine Ops.nil ?_
        refine Run.cond rfl (fun hc => ?_) (fun hc => ?_)
        · replace hf := ifFb (bn_T hc) hf
          refine Run.seq ?_
          refine Run.region ?_
          refine Ops.ex (Ex.assign rfl) rfl rfl rfl ?_
          refine Ops.nil ?_
          obtain rfl := Option.some.inj hf
          exact Run.retV [vi 7] rfl ⟨rfl, trivial⟩ ⟨z11, gm13, E13, c13, gm14, E14, c14, A15, c15, d15, Ha1, Γ1, rfl, hle0, f13, f14, f15, hA1, hGi1, hst11⟩
        · replace hf := ifTb (bn_F hc) hf
          refine Run.skip ?_
          refine Run.endBlk ?_
          refine Run.seq ?_
          refine Run.region ?_
          refine Ops.ex (Ex.move rfl) rfl rfl rfl ?_
          refine Ops.ex (Ex.move rfl) rfl rfl rfl ?_
          refine Ops.ex (Ex.build [.slice none 0 0, vi 0] rfl Try.underlying73 zr73 (pl73 Try.underlying73) (by kernel_rfl)) rfl rfl rfl ?_
          refine Ops.boxF [.slice none 0 0, vi 0] hst11 rfl rfl rfl (fun g20 w20 hst20 => ?_)
          have hst21 := St.row0 hst20 5 1
          obtain ⟨Γ1, hG23, fP23, hA23⟩ := ArL.new (O := O1) (g := g20) (a := (⟨[], 0⟩ : filesfile)) (rs := [blk g20 [.slice none 0 0, vi 0] 73, orow 5 1 (.slice none 0 0) 0 []]) hA1 ⟨_, _, _, _, (Cs.nil tU8 z11), rfl, rfl⟩
          replace f10 := f10.up hG23; replace f13 := f13.up (tA.up hG23); replace f14 := f14.up (tA.up hG23); replace f15 := f15.up (tSl.up (tfileschange.up hG23))
          replace hGi1 := hGi1.trans hG23
          replace hA23 : Ar1 z11 Γ1 (ar1 ++ [(⟨[], 0⟩ : filesfile)]) ([blk g20 [.slice none 0 0, vi 0] 73, orow 5 1 (.slice none 0 0) 0 []] ++ Ha1) := hA23
          obtain ⟨ar23, hy23, hf⟩ := bnd hf
          rw [Option.some.inj hy23] at hA23
          have hst23 : Ht w0 (frz z11 :: (blk g0 [.map (some gm13), .map (some gm14), .slice A15 y11.2.wait_.length c15, vi y11.2.room_, vi y11.2.left_, vb y11.2.down_, vi y11.2.calls_] 68) :: (ob gm13 (.map E13 c13)) :: (ob gm14 (.map E14 c14)) :: (orow 78 1 (.slice A15 y11.2.wait_.length c15) y11.2.wait_.length d15) :: (([blk g20 [.slice none 0 0, vi 0] 73, orow 5 1 (.slice none 0 0) 0 []] ++ Ha1) ++ X)) _ := (St.up (St.up (St.up (St.up (St.up (St.up (St.up hst21 1 rfl) 2 rfl) 6 rfl) 6 rfl) 6 rfl) 6 rfl) 6 rfl)
          refine Ops.ex (Ex.build [vs p1, .pointer (some ⟨g20, 0, none⟩)] rfl Try.underlying75 zr75 (pl75 Try.underlying75) (by kernel_rfl)) rfl rfl rfl ?_
          refine Ops.sliceF [vs p1, .pointer (some ⟨g20, 0, none⟩)] hst23 rfl Try.underlying78 sz75 zr75 rfl rfl (by kernel_rfl) rfl (by simp [Value.oneCell']) rfl (fun A24 w24 hst24 => ?_)
          have f24 : Cs (tfileschange Γ1) z11 [vs p1, .pointer (some ⟨g20, 0, none⟩)] [(⟨p1, some ar1.length⟩ : fileschange)] := (Cs.cons (c := [vs p1, .pointer (some ⟨g20, 0, none⟩)]) ⟨_, rfl, fP23⟩ (Cs.nil _ _))
          obtain ⟨z26, hz26, f26, hst26⟩ := St.freeze (τ := (tfileschange Γ1)) (xs := [(⟨p1, some ar1.length⟩ : fileschange)]) hst24 f24 rfl
          replace f10 := f10.mono hz26; replace fP23 := fP23.mono hz26; replace f13 := f13.mono hz26; replace f14 := f14.mono hz26; replace f15 := f15.mono hz26; replace hA23 := hA23.mono hz26
          replace hle0 := hle0.trans hz26
          obtain ⟨y25, hy25, hf⟩ := bnd hf
          refine Ops.call rfl rfl Try.func36 (by kernel_rfl) (by kernel_rfl) rfl (go_files_Disk_set.walk (Γ1 := Γ1) (p0 := y11.2) (p1 := [(⟨p1, some ar1.length⟩ : fileschange)]) (hst := hst26) (f1 := f13) (f2 := f14) (f3 := f15) (f8 := f26) (hf := hy25)) ?_
          rintro _ w25 ⟨z25, gm27, E27, c27, gm28, E28, c28, A29, c29, d29, rfl, hz25, f27, f28, f29, hst25⟩
          refine ⟨_, rfl, ?_⟩
          replace f10 := f10.mono hz25; replace fP23 := fP23.mono hz25; replace f26 := f26.mono hz25; replace hA23 := hA23.mono hz25
          replace hle0 := hle0.trans hz25
          refine Ops.nil ?_
          refine Run.seq ?_
          refine Run.region ?_
          refine Ops.ex (Ex.assign rfl) rfl rfl rfl ?_
          refine Ops.nil ?_
          obtain rfl := Option.some.inj hf
          exact Run.retV [vi 0] rfl ⟨rfl, trivial⟩ ⟨z25, gm27, E27, c27, gm28, E28, c28, A29, c29, d29, ([blk g20 [.slice none 0 0, vi 0] 73, orow 5 1 (.slice none 0 0) 0 []] ++ Ha1), Γ1, rfl, hle0, f27, f28, f29, hA23, hGi1, hst25⟩
def go_files_Disk_Used.b1 (ar1 : List filesfile) : (Str × Option Nat) → Int → (Int → Option Int) → Option Int :=
  fun a9 x35 nxb9 => (a9.2).bind fun i40 => (ar1[i40]?).bind fun y40 => nxb9 (wr (x35 + (y40.b_.length : Int)))
def go_files_Disk_Used (p0 : filesDisk) (ar1 : List filesfile) : Option Int :=
  forN (go_files_Disk_Used.b1 ar1) (fun x35 => some x35) p0.now_.length p0.now_ 0
set_option maxRecDepth 100000 in
set_option maxHeartbeats 4000000 in
theorem go_files_Disk_Used.walk {w0 w : World} {Γ1 : List Nat} {X : List Res} {z0 : Zp} {p0 : filesDisk} {g0 : Nat} {gm1 : Nat} {E1 : Array MapEntry} {c1 : Nat} {gm2 : Nat} {E2 : Array MapEntry} {c2 : Nat} {A3 : Option Addr} {c3 : Nat} {d3 : List Value} {ar1 : List filesfile} {Ha1 : List Res} {r : Int} (hst : Ht w0 (frz z0 :: (blk g0 [.map (some gm1), .map (some gm2), .slice A3 p0.wait_.length c3, vi p0.room_, vi p0.left_, vb p0.down_, vi p0.calls_] 68) :: (ob gm1 (.map E1 c1)) :: (ob gm2 (.map E2 c2)) :: (orow 78 1 (.slice A3 p0.wait_.length c3) p0.wait_.length d3) :: (Ha1 ++ X)) w) (f1 : Mr (tA Γ1) pk1 z0 E1 c1 p0.now_) (f2 : Mr (tA Γ1) pk1 z0 E2 c2 p0.safe_) (f3 : Cs (tSl (tfileschange Γ1)) z0 d3 p0.wait_) (hA1 : Ar1 z0 Γ1 ar1 Ha1) (hf : go_files_Disk_Used p0 ar1 = some r) :
    Calls Try.prog 21 #[.pointer (some ⟨g0, 0, none⟩)] w fun e w' => ∃ (z' : Zp) (Ha9002 : List Res), e = .returned (vi r) ∧ Le z0 z' ∧ Ar1 z' Γ1 ar1 Ha9002 ∧ Ht w0 (frz z' :: (blk g0 [.map (some gm1), .map (some gm2), .slice A3 p0.wait_.length c3, vi p0.room_, vi p0.left_, vb p0.down_, vi p0.calls_] 68) :: (ob gm1 (.map E1 c1)) :: (ob gm2 (.map E2 c2)) :: (orow 78 1 (.slice A3 p0.wait_.length c3) p0.wait_.length d3) :: (Ha9002 ++ X)) w' := by
  refine calls_np Try.func21 rfl rfl ?_
  have hle0 := Le.refl z0
  unfold go_files_Disk_Used at hf
  have hGi1 := List.prefix_rfl (l := Γ1)
  refine Run.seq ?_
  refine Run.region ?_
  refine Ops.ex (Ex.assign rfl) rfl rfl rfl ?_
  refine Ops.nil ?_
  refine Run.seq ?_
  refine Run.region ?_
  refine Ops.ex (Ex.assign rfl) rfl rfl rfl ?_
  refine Ops.nil ?_
  refine Run.seq ?_
  refine Run.seq ?_
  refine Run.region ?_
  refine Ops.ex (Ex.move rfl) rfl rfl rfl ?_
  refine Ops.ex (Ex.nilCheck rfl) rfl rfl rfl ?_
  refine Ops.ex (Ex.fieldAddr rfl Try.underlying68 rfl sz65) rfl rfl rfl ?_
  refine Ops.load rfl Try.underlying65 rfl (hst.cell (i := 1) rfl rfl) rfl ?_
  refine Ops.mrangeO 2 f1 hst rfl rfl Try.underlying65 rfl (fun g8 w8 f8 hst8 => ?_)
  refine Ops.nil ?_
  refine Run.block ?_
  refine Run.sub (e' := [(3, vi 0), (10, .pointer (some ⟨g8, 0, none⟩))]) (subB_spec ⟨rfl, rfl, trivial⟩) ?_
  refine Run.loop (fun mb9 => (fun e' w' => ∃ (mp9 : Mp (Option Nat)) (x35 : Int) (Ha36 : List Res) (q9 : Array Nat) (z34 : Zp), mb9 = mp9.length ∧ forN (go_files_Disk_Used.b1 ar1) (fun x35 => some x35) mp9.length mp9 x35 = some r ∧ e' = [(3, vi x35), (10, .pointer (some ⟨g8, 0, none⟩))] ∧ Le z0 z34 ∧ Ar1 z34 Γ1 ar1 Ha36 ∧ Mj (tA Γ1) pk1 z34 E1 c1 q9 mp9 ∧ Ht w0 (frz z34 :: (ob g8 (.mapIter (some gm1) c1 q9 c1)) :: (blk g0 [.map (some gm1), .map (some gm2), .slice A3 p0.wait_.length c3, vi p0.room_, vi p0.left_, vb p0.down_, vi p0.calls_] 68) :: (ob gm1 (.map E1 c1)) :: (ob gm2 (.map E2 c2)) :: (orow 78 1 (.slice A3 p0.wait_.length c3) p0.wait_.length d3) :: (Ha36 ++ X)) w')) p0.now_.length ⟨p0.now_, 0, Ha1, #[], z0, rfl, hf, rfl, hle0, hA1, f8, hst8⟩ ?_
  rintro _ e' w37 ⟨mp9, x35, Ha36, q9, z34, rfl, hf, rfl, hz37, hA36, fM9, hst37⟩
  replace f1 := f1.mono hz37; replace f2 := f2.mono hz37; replace f3 := f3.mono hz37
  refine Run.seq ?_
  refine Run.region ?_
  have hsr9 := Mj.srt fM9
  refine Ops.mnextO 1 3 hst37 rfl rfl fM9 rfl rfl (fun hm0 => ?_) (fun a9 cs38 q38 w38 ham hR38 hC38 hM38 hst38 => ?_)
  · replace hf := forN_nil hf hm0
    try dsimp only at hf
    refine Ops.ex (Ex.extract rfl rfl) rfl rfl rfl ?_
    refine Ops.nil ?_
    refine Run.seq ?_
    refine Run.condF rfl rfl ?_
    refine Run.exit _ rfl ?_
    refine Run.seq ?_
    refine Run.region ?_
    refine Ops.ex (Ex.move rfl) rfl rfl rfl ?_
    refine Ops.ex (Ex.assign rfl) rfl rfl rfl ?_
    refine Ops.nil ?_
    obtain rfl := Option.some.inj hf
    exact Run.retV [vi x35] rfl ⟨rfl, trivial⟩ ⟨z34, Ha36, rfl, hz37, hA36, (St.forget hst37 1)⟩
  · obtain ⟨A39, rfl, f39⟩ := hR38
    obtain ⟨nxb9, hnxb9, hf⟩ := forN_cons hf hsr9 ham
    unfold go_files_Disk_Used.b1 at hf
    try dsimp only at hf
    replace hst38 : Ht w0 (frz z34 :: (ob g8 (.mapIter (some gm1) c1 q38 c1)) :: (blk g0 [.map (some gm1), .map (some gm2), .slice A3 p0.wait_.length c3, vi p0.room_, vi p0.left_, vb p0.down_, vi p0.calls_] 68) :: (ob gm1 (.map E1 c1)) :: (ob gm2 (.map E2 c2)) :: (orow 78 1 (.slice A3 p0.wait_.length c3) p0.wait_.length d3) :: (Ha36 ++ X)) _ := hst38
    refine Ops.ex (Ex.extract rfl rfl) rfl rfl rfl ?_
    refine Ops.nil ?_
    refine Run.seq ?_
    refine Run.condT rfl rfl ?_
    refine Run.skip ?_
    refine Run.block ?_
    refine Run.seq ?_
    refine Run.region ?_
    refine Ops.mentryO (i := 1) (j := 3) hst38 rfl rfl hC38 rfl rfl ?_
    refine Ops.ex (Ex.extract rfl rfl) rfl rfl rfl ?_
    refine Ops.ex (Ex.assign rfl) rfl rfl rfl ?_
    refine Ops.nil ?_
    refine Run.region ?_
    refine Ops.ex (Ex.move rfl) rfl rfl rfl ?_
    refine Ops.ex (Ex.move rfl) rfl rfl rfl ?_
    have hm41 := Le.refl z34
    obtain ⟨i40, hi40, hf⟩ := bnd hf
    obtain ⟨y40, hy40, hf⟩ := bnd hf
    obtain ⟨g40, hA40, hg40⟩ := PtA.some f39 hi40
    obtain ⟨rs40, Hr40, hO40, hP40, hcl40, hba40⟩ := ArL.open O1.mono hA36 hg40 hy40
    obtain ⟨A42, c42, _, d42, f42, rfl, rfl⟩ := hO40
    have hst40 : Ht w0 (frz z34 :: (ob g8 (.mapIter (some gm1) c1 q38 c1)) :: (blk g0 [.map (some gm1), .map (some gm2), .slice A3 p0.wait_.length c3, vi p0.room_, vi p0.left_, vb p0.down_, vi p0.calls_] 68) :: (ob gm1 (.map E1 c1)) :: (ob gm2 (.map E2 c2)) :: (orow 78 1 (.slice A3 p0.wait_.length c3) p0.wait_.length d3) :: (blk g40 [.slice A42 y40.b_.length c42, vi y40.safe_] 73) :: (orow 5 1 (.slice A42 y40.b_.length c42) y40.b_.length d42) :: (Hr40 ++ X)) _ := St.tailP (B := [ob g8 (.mapIter (some gm1) c1 q38 c1), blk g0 [.map (some gm1), .map (some gm2), .slice A3 p0.wait_.length c3, vi p0.room_, vi p0.left_, vb p0.down_, vi p0.calls_] 68, ob gm1 (.map E1 c1), ob gm2 (.map E2 c2), orow 78 1 (.slice A3 p0.wait_.length c3) p0.wait_.length d3]) hst38 hP40
    refine Ops.ex (Ex.nilP hA40 rfl) rfl rfl rfl ?_
    refine Ops.ex (Ex.fieldAddr rfl Try.underlying73 rfl sz22) rfl rfl rfl ?_
    refine Ops.load rfl Try.underlying22 rfl (hst40.cell (i := 6) rfl rfl) rfl ?_
    refine Ops.ex (Ex.len' rfl rfl rfl Try.underlying22) rfl rfl rfl ?_
    refine Ops.ex (Ex.add rfl rfl) rfl rfl rfl ?_
    refine Ops.ex (Ex.assign rfl) rfl rfl rfl ?_
    refine Ops.nil ?_
    have hA44 : Ar1 z34 Γ1 ar1 ([blk g40 [.slice A42 y40.b_.length c42, vi y40.safe_] 73, orow 5 1 (.slice A42 y40.b_.length c42) y40.b_.length d42] ++ Hr40) := hba40 _ hm41 _ ⟨_, _, _, _, f42, rfl, rfl⟩
    have hst44 : Ht w0 (frz z34 :: (ob g8 (.mapIter (some gm1) c1 q38 c1)) :: (blk g0 [.map (some gm1), .map (some gm2), .slice A3 p0.wait_.length c3, vi p0.room_, vi p0.left_, vb p0.down_, vi p0.calls_] 68) :: (ob gm1 (.map E1 c1)) :: (ob gm2 (.map E2 c2)) :: (orow 78 1 (.slice A3 p0.wait_.length c3) p0.wait_.length d3) :: (([blk g40 [.slice A42 y40.b_.length c42, vi y40.safe_] 73, orow 5 1 (.slice A42 y40.b_.length c42) y40.b_.length d42] ++ Hr40) ++ X)) _ := hst40
    refine Run.endBlk ?_
    exact Run.sub (by exact subB_spec ⟨rfl, rfl, trivial⟩) (Run.stop ⟨(mdel mp9 a9.1).length, (by have := mdel_len hsr9 ham; omega), (mdel mp9 a9.1), wr (x35 + (y40.b_.length : Int)), ([blk g40 [.slice A42 y40.b_.length c42, vi y40.safe_] 73, orow 5 1 (.slice A42 y40.b_.length c42) y40.b_.length d42] ++ Hr40), q38, z34, rfl, (hnxb9 _).symm.trans hf, rfl, hz37, hA44, hM38, hst44⟩)
def go_files_Disk_Append (p0 : filesDisk) (p1 : Str) (p2 : List UInt8) (ar1 : List filesfile) : Option (Int × filesDisk × List filesfile) :=
  if p0.down_ then (some (7, p0, ar1)) else (if (mget p0.now_ p1).isSome then ((go_files_Disk_Used p0 ar1).bind fun y13 => if p0.room_ < wr (y13 + (p2.length : Int)) then (some (4, p0, ar1)) else ((go_files_Disk_call p0).bind fun y16 => (((mget p0.now_ p1).getD none)).bind fun i25 => (ar1[i25]?).bind fun y25 => (apB 1 y25.b_ p2).bind fun l29 => (some (ar1.set i25 (⟨l29, y25.safe_⟩ : filesfile))).bind fun ar31 => if y16.1 then (some (0, y16.2, ar31)) else (some (7, y16.2, ar31)))) else (some (6, p0, ar1)))
set_option maxRecDepth 100000 in
set_option maxHeartbeats 4000000 in
theorem go_files_Disk_Append.walk {w0 w : World} {Γ1 : List Nat} {X : List Res} {z0 : Zp} {p0 : filesDisk} {g0 : Nat} {gm1 : Nat} {E1 : Array MapEntry} {c1 : Nat} {gm2 : Nat} {E2 : Array MapEntry} {c2 : Nat} {A3 : Option Addr} {c3 : Nat} {d3 : List Value} {p1 : Str} {p2 : List UInt8} {A9 : Option Addr} {c9 : Nat} {ar1 : List filesfile} {Ha1 : List Res} {r : Int × filesDisk × List filesfile} (hst : Ht w0 (frz z0 :: (blk g0 [.map (some gm1), .map (some gm2), .slice A3 p0.wait_.length c3, vi p0.room_, vi p0.left_, vb p0.down_, vi p0.calls_] 68) :: (ob gm1 (.map E1 c1)) :: (ob gm2 (.map E2 c2)) :: (orow 78 1 (.slice A3 p0.wait_.length c3) p0.wait_.length d3) :: (Ha1 ++ X)) w) (f1 : Mr (tA Γ1) pk1 z0 E1 c1 p0.now_) (f2 : Mr (tA Γ1) pk1 z0 E2 c2 p0.safe_) (f3 : Cs (tSl (tfileschange Γ1)) z0 d3 p0.wait_) (f9 : Sl tU8 z0 A9 c9 p2) (hA1 : Ar1 z0 Γ1 ar1 Ha1) (hf : go_files_Disk_Append p0 p1 p2 ar1 = some r) :
    Calls Try.prog 14 #[.pointer (some ⟨g0, 0, none⟩), vs p1, .slice A9 p2.length c9] w fun e w' => ∃ (z' : Zp) (gm9002 : Nat) (E9002 : Array MapEntry) (c9002 : Nat) (gm9003 : Nat) (E9003 : Array MapEntry) (c9003 : Nat) (A9004 : Option Addr) (c9004 : Nat) (d9004 : List Value) (Ha9009 : List Res), e = .returned (vi r.1) ∧ Le z0 z' ∧ Mr (tA Γ1) pk1 z' E9002 c9002 r.2.1.now_ ∧ Mr (tA Γ1) pk1 z' E9003 c9003 r.2.1.safe_ ∧ Cs (tSl (tfileschange Γ1)) z' d9004 r.2.1.wait_ ∧ Ar1 z' Γ1 r.2.2 Ha9009 ∧ Ht w0 (frz z' :: (blk g0 [.map (some gm9002), .map (some gm9003), .slice A9004 r.2.1.wait_.length c9004, vi r.2.1.room_, vi r.2.1.left_, vb r.2.1.down_, vi r.2.1.calls_] 68) :: (ob gm9002 (.map E9002 c9002)) :: (ob gm9003 (.map E9003 c9003)) :: (orow 78 1 (.slice A9004 r.2.1.wait_.length c9004) r.2.1.wait_.length d9004) :: (Ha9009 ++ X)) w' := by
  refine calls_np Try.func14 rfl rfl ?_
  have hle0 := Le.refl z0
  unfold go_files_Disk_Append at hf
  have hGi1 := List.prefix_rfl (l := Γ1)
  refine Run.seq ?_
  refine Run.region ?_
  refine Ops.ex (Ex.assign rfl) rfl rfl rfl ?_
  refine Ops.nil ?_
  refine Run.seq ?_
  refine Run.region ?_
  refine Ops.ex (Ex.move rfl) rfl rfl rfl ?_
  refine Ops.ex (Ex.nilCheck rfl) rfl rfl rfl ?_
  refine Ops.ex (Ex.fieldAddr rfl Try.underlying68 rfl sz65) rfl rfl rfl ?_
  refine Ops.load rfl Try.underlying65 rfl (hst.cell (i := 1) rfl rfl) rfl ?_
  refine Ops.ex (Ex.move rfl) rfl rfl rfl ?_
  refine Ops.mlook (zcs := [.pointer none]) (s := p1) none (Mr.own f1 hst (i := 2) rfl) rfl rfl Try.underlying65 Try.underlying9 zr69 ⟨_, rfl, (PtA.nil _)⟩ rfl (fun cs10 hR10 => ?_)
  obtain ⟨A11, rfl, f11⟩ := hR10
  refine Ops.ex (Ex.move rfl) rfl rfl rfl ?_
  refine Ops.ex (Ex.extract rfl rfl) rfl rfl rfl ?_
  refine Ops.ex (Ex.extract rfl rfl) rfl rfl rfl ?_
  refine Ops.ex (Ex.assign rfl) rfl rfl rfl ?_
  refine Ops.ex (Ex.assign rfl) rfl rfl rfl ?_
  refine Ops.nil ?_
  refine Run.seq ?_
  refine Run.block ?_
  refine Run.seq ?_
  refine Run.region ?_
  refine Ops.ex (Ex.move rfl) rfl rfl rfl ?_
  refine Ops.ex (Ex.nilCheck rfl) rfl rfl rfl ?_
  refine Ops.ex (Ex.fieldAddr rfl Try.underlying68 rfl sz4) rfl rfl rfl ?_
  refine Ops.load rfl Try.underlying4 rfl (hst.cell (i := 1) rfl rfl) rfl ?_
  refine Ops.ex (Ex.assign rfl) rfl rfl rfl ?_
  refine Ops.nil ?_
  refine Run.cond rfl (fun hc => ?_) (fun hc => ?_)
  · replace hf := ifTb hc hf
    refine Run.seq ?_
    refine Run.region ?_
    refine Ops.ex (Ex.assign rfl) rfl rfl rfl ?_
    refine Ops.nil ?_
    obtain rfl := Option.some.inj hf
    exact Run.retV [vi 7] rfl ⟨rfl, trivial⟩ ⟨z0, gm1, E1, c1, gm2, E2, c2, A3, c3, d3, Ha1, rfl, hle0, f1, f2, f3, hA1, hst⟩
  · replace hf := ifFb hc hf
    refine Run.seq ?_
    refine Run.region ?_
    refine Ops.ex (Ex.move rfl) rfl rfl rfl ?_
    refine Ops.ex (Ex.not rfl) rfl rfl rfl ?_
    refine Ops.ex (Ex.assign rfl) rfl rfl rfl ?_
    refine Ops.nil ?_
    refine Run.cond rfl (fun hc => ?_) (fun hc => ?_)
    · replace hf := ifFb (bn_T hc) hf
      refine Run.seq ?_
      refine Run.region ?_
      refine Ops.ex (Ex.assign rfl) rfl rfl rfl ?_
      refine Ops.nil ?_
      obtain rfl := Option.some.inj hf
      exact Run.retV [vi 6] rfl ⟨rfl, trivial⟩ ⟨z0, gm1, E1, c1, gm2, E2, c2, A3, c3, d3, Ha1, rfl, hle0, f1, f2, f3, hA1, hst⟩
    · replace hf := ifTb (bn_F hc) hf
      refine Run.seq ?_
      refine Run.drawH [([], fun w => ∃ ζ Y, Le z0 ζ ∧ Ht w0 (frz ζ :: (blk g0 [.map (some gm1), .map (some gm2), .slice A3 p0.wait_.length c3, vi p0.room_, vi p0.left_, vb p0.down_, vi p0.calls_] 68) :: (ob gm1 (.map E1 c1)) :: (ob gm2 (.map E2 c2)) :: (orow 78 1 (.slice A3 p0.wait_.length c3) p0.wait_.length d3) :: Y) w)] (by kernel_rfl) hst (fun w12 hst12 => ?_)
      have hS0 := (⟨_, _, (Le.refl _), (St.up (St.up (St.up (St.up (St.up hst12 4 rfl) 4 rfl) 4 rfl) 4 rfl) 4 rfl)⟩ : (fun w => ∃ ζ Y, Le z0 ζ ∧ Ht w0 (frz ζ :: (blk g0 [.map (some gm1), .map (some gm2), .slice A3 p0.wait_.length c3, vi p0.room_, vi p0.left_, vb p0.down_, vi p0.calls_] 68) :: (ob gm1 (.map E1 c1)) :: (ob gm2 (.map E2 c2)) :: (orow 78 1 (.slice A3 p0.wait_.length c3) p0.wait_.length d3) :: Y) w) _)
      refine Any.takeE 0 rfl rfl rfl rfl (by kernel_rfl) (fun _ _ _ _ _ h => h) ((Ex.move rfl).s) ?_
      refine Any.takeE 2 rfl rfl rfl rfl (by kernel_rfl) (fun _ _ _ _ _ h => h) ((Ex.move rfl).s) ?_
      refine Any.takeE 3 rfl rfl rfl rfl (by kernel_rfl) (fun _ _ _ _ _ h => h) ((Ex.len' rfl rfl rfl Try.underlying22).s) ?_
      refine Any.takeE 5 rfl rfl rfl rfl (by kernel_rfl) (fun _ _ _ _ _ h => h) ((Ex.move rfl).s) ?_
      refine Any.takeE 6 rfl rfl rfl rfl (by kernel_rfl) (fun _ _ _ _ _ h => h) ((Ex.nilCheck rfl).s) ?_
      refine Any.takeE 7 rfl rfl rfl rfl (by kernel_rfl) (fun _ _ _ _ _ h => h) ((Ex.fieldAddr rfl Try.underlying68 rfl sz3).s) ?_
      refine Any.take 0 8 rfl rfl rfl rfl rfl (by kernel_rfl) (fun _ _ _ _ _ h => h) (ExS.load rfl Try.underlying3 rfl (fun w hS => by obtain ⟨_, _, _, hs⟩ := hS; exact hs.cell (i := 1) rfl rfl)) hS0 ?_
      obtain ⟨y13, hy13, hf⟩ := bnd hf
      refine Any.one 1 (by kernel_rfl) rfl rfl (One.of_ops rfl ?_)
      refine Ops.call rfl rfl Try.func21 (by kernel_rfl) (by kernel_rfl) rfl (go_files_Disk_Used.walk (Γ1 := Γ1) (p0 := p0) (ar1 := ar1) (hst := hst12) (f1 := f1) (f2 := f2) (f3 := f3) (hA1 := hA1) (Ha1 := Ha1) (hf := hy13)) ?_
      rintro _ w13 ⟨z13, Ha15, rfl, hz13, hA15, hst13⟩
      replace hst13 : Ht w0 (frz z13 :: (blk g0 [.map (some gm1), .map (some gm2), .slice A3 p0.wait_.length c3, vi p0.room_, vi p0.left_, vb p0.down_, vi p0.calls_] 68) :: (ob gm1 (.map E1 c1)) :: (ob gm2 (.map E2 c2)) :: (orow 78 1 (.slice A3 p0.wait_.length c3) p0.wait_.length d3) :: (Ha15 ++ X)) _ := hst13
      refine ⟨_, rfl, Ops.stop ?_⟩
      replace f9 := f9.mono hz13; replace f11 := f11.mono hz13; replace f1 := f1.mono hz13; replace f2 := f2.mono hz13; replace f3 := f3.mono hz13
      replace hle0 := hle0.trans hz13
      have hS0 := (⟨_, _, hle0, (St.up (St.up (St.up (St.up (St.up hst13 4 rfl) 4 rfl) 4 rfl) 4 rfl) 4 rfl)⟩ : (fun w => ∃ ζ Y, Le z0 ζ ∧ Ht w0 (frz ζ :: (blk g0 [.map (some gm1), .map (some gm2), .slice A3 p0.wait_.length c3, vi p0.room_, vi p0.left_, vb p0.down_, vi p0.calls_] 68) :: (ob gm1 (.map E1 c1)) :: (ob gm2 (.map E2 c2)) :: (orow 78 1 (.slice A3 p0.wait_.length c3) p0.wait_.length d3) :: Y) w) _)
      refine ⟨⟨.inr (fun _ => hS0), trivial⟩, ?_⟩
      refine Any.takeE 4 rfl rfl rfl rfl (by kernel_rfl) (fun _ _ _ _ _ h => h) ((Ex.add rfl rfl).s) ?_
      refine Any.takeE 9 rfl rfl rfl rfl (by kernel_rfl) (fun _ _ _ _ _ h => h) ((Ex.gtr rfl rfl).s) ?_
      refine Any.takeE 10 rfl rfl rfl rfl (by kernel_rfl) (fun _ _ _ _ _ h => h) ((Ex.assign rfl).s) ?_
      refine Any.done (by kernel_rfl) ?_
      refine Run.cond rfl (fun hc => ?_) (fun hc => ?_)
      · replace hf := ifT (dec_T hc) hf
        refine Run.seq ?_
        refine Run.region ?_
        refine Ops.ex (Ex.assign rfl) rfl rfl rfl ?_
        refine Ops.nil ?_
        obtain rfl := Option.some.inj hf
        exact Run.retV [vi 4] rfl ⟨rfl, trivial⟩ ⟨z13, gm1, E1, c1, gm2, E2, c2, A3, c3, d3, Ha15, rfl, hle0, f1, f2, f3, hA15, hst13⟩
      · replace hf := ifF (dec_F hc) hf
        refine Run.skip ?_
        refine Run.endBlk ?_
        refine Run.seq ?_
        refine Run.region ?_
        refine Ops.ex (Ex.move rfl) rfl rfl rfl ?_
        obtain ⟨y16, hy16, hf⟩ := bnd hf
        refine Ops.call rfl rfl Try.func35 (by kernel_rfl) (by kernel_rfl) rfl (go_files_Disk_call.walk (Γ1 := Γ1) (p0 := p0) (hst := hst13) (f1 := f1) (f2 := f2) (f3 := f3) (hf := hy16)) ?_
        rintro _ w16 ⟨z16, gm18, E18, c18, gm19, E19, c19, A20, c20, d20, rfl, hz16, f18, f19, f20, hst16⟩
        refine ⟨_, rfl, ?_⟩
        replace f9 := f9.mono hz16; replace f11 := f11.mono hz16; replace hA15 := hA15.mono hz16
        replace hle0 := hle0.trans hz16
        refine Ops.ex (Ex.assign rfl) rfl rfl rfl ?_
        refine Ops.nil ?_
        refine Run.seq ?_
        refine Run.region ?_
        refine Ops.ex (Ex.move rfl) rfl rfl rfl ?_
        refine Ops.ex (Ex.move rfl) rfl rfl rfl ?_
        have hm26 := Le.refl z16
        obtain ⟨i25, hi25, hf⟩ := bnd hf
        obtain ⟨y25, hy25, hf⟩ := bnd hf
        obtain ⟨g25, hA25, hg25⟩ := PtA.some f11 hi25
        obtain ⟨rs25, Hr25, hO25, hP25, hcl25, hba25⟩ := ArL.open O1.mono hA15 hg25 hy25
        obtain ⟨A27, c27, _, d27, f27, rfl, rfl⟩ := hO25
        have hst25 : Ht w0 (frz z16 :: (blk g0 [.map (some gm18), .map (some gm19), .slice A20 y16.2.wait_.length c20, vi y16.2.room_, vi y16.2.left_, vb y16.2.down_, vi y16.2.calls_] 68) :: (ob gm18 (.map E18 c18)) :: (ob gm19 (.map E19 c19)) :: (orow 78 1 (.slice A20 y16.2.wait_.length c20) y16.2.wait_.length d20) :: (blk g25 [.slice A27 y25.b_.length c27, vi y25.safe_] 73) :: (orow 5 1 (.slice A27 y25.b_.length c27) y25.b_.length d27) :: (Hr25 ++ X)) _ := St.tailP (B := [blk g0 [.map (some gm18), .map (some gm19), .slice A20 y16.2.wait_.length c20, vi y16.2.room_, vi y16.2.left_, vb y16.2.down_, vi y16.2.calls_] 68, ob gm18 (.map E18 c18), ob gm19 (.map E19 c19), orow 78 1 (.slice A20 y16.2.wait_.length c20) y16.2.wait_.length d20]) hst16 hP25
        refine Ops.ex (Ex.nilP hA25 rfl) rfl rfl rfl ?_
        refine Ops.ex (Ex.fieldAddr rfl Try.underlying73 rfl sz22) rfl rfl rfl ?_
        refine Ops.load rfl Try.underlying22 rfl (hst25.cell (i := 5) rfl rfl) rfl ?_
        refine Ops.ex (Ex.move rfl) rfl rfl rfl ?_
        obtain ⟨l29, hy29, hf⟩ := bnd hf
        refine Ops.app 6 hst25 rfl f27 rfl (f9.at_ hst25) rfl hy29 rfl rfl rfl rfl Try.underlying22 inf5 rfl (by decide) (by decide) rfl (fun A29 c29 d29 w29 f29 hst29 => ?_)
        refine Ops.ex (Ex.nilP hA25 rfl) rfl rfl rfl ?_
        refine Ops.ex (Ex.fieldAddr rfl Try.underlying73 rfl sz22) rfl rfl rfl ?_
        refine Ops.store 5 [.slice A29 l29.length c29] hst29 rfl rfl rfl rfl sz22 rfl (by simp [Value.oneCell']) (by simp) (fun w30 hst30 => ?_)
        refine Ops.nil ?_
        have hA31 : Ar1 z16 Γ1 (ar1.set i25 (⟨l29, y25.safe_⟩ : filesfile)) ([blk g25 [.slice A29 l29.length c29, vi y25.safe_] 73, orow 5 1 (.slice A29 l29.length c29) l29.length d29] ++ Hr25) := hcl25 _ hm26 _ _ ⟨_, _, _, _, f29, rfl, rfl⟩
        obtain ⟨ar31, hy31, hf⟩ := bnd hf
        rw [Option.some.inj hy31] at hA31
        have hst31 : Ht w0 (frz z16 :: (blk g0 [.map (some gm18), .map (some gm19), .slice A20 y16.2.wait_.length c20, vi y16.2.room_, vi y16.2.left_, vb y16.2.down_, vi y16.2.calls_] 68) :: (ob gm18 (.map E18 c18)) :: (ob gm19 (.map E19 c19)) :: (orow 78 1 (.slice A20 y16.2.wait_.length c20) y16.2.wait_.length d20) :: (([blk g25 [.slice A29 l29.length c29, vi y25.safe_] 73, orow 5 1 (.slice A29 l29.length c29) l29.length d29] ++ Hr25) ++ X)) _ := hst30
        refine Run.seq ?_
        refine Run.seq ?_
        refine Run.region ?_
        refine Ops.ex (Ex.move rfl) rfl rfl rfl ?_
        refine Ops.ex (Ex.not rfl) rfl rfl rfl ?_
        refine Ops.nil ?_
        refine Run.cond rfl (fun hc => ?_) (fun hc => ?_)
        · replace hf := ifFb (bn_T hc) hf
          refine Run.seq ?_
          refine Run.region ?_
          refine Ops.ex (Ex.assign rfl) rfl rfl rfl ?_
          refine Ops.nil ?_
          obtain rfl := Option.some.inj hf
          exact Run.retV [vi 7] rfl ⟨rfl, trivial⟩ ⟨z16, gm18, E18, c18, gm19, E19, c19, A20, c20, d20, ([blk g25 [.slice A29 l29.length c29, vi y25.safe_] 73, orow 5 1 (.slice A29 l29.length c29) l29.length d29] ++ Hr25), rfl, hle0, f18, f19, f20, hA31, hst31⟩
        · replace hf := ifTb (bn_F hc) hf
          refine Run.skip ?_
          refine Run.seq ?_
          refine Run.region ?_
          refine Ops.ex (Ex.assign rfl) rfl rfl rfl ?_
          refine Ops.nil ?_
          obtain rfl := Option.some.inj hf
          exact Run.retV [vi 0] rfl ⟨rfl, trivial⟩ ⟨z16, gm18, E18, c18, gm19, E19, c19, A20, c20, d20, ([blk g25 [.slice A29 l29.length c29, vi y25.safe_] 73, orow 5 1 (.slice A29 l29.length c29) l29.length d29] ++ Hr25), rfl, hle0, f18, f19, f20, hA31, hst31⟩
def go_files_Disk_Read (p0 : filesDisk) (p1 : Str) (ar1 : List filesfile) : Option (List UInt8 × Int × List filesfile) :=
  if p0.down_ then (some ([], 7, ar1)) else (if (mget p0.now_ p1).isSome then ((((mget p0.now_ p1).getD none)).bind fun i15 => (ar1[i15]?).bind fun y15 => (go_slices_Clone_byte_byte y15.b_).bind fun y18 => (some (ar1.set i15 (⟨y18.2, y15.safe_⟩ : filesfile))).bind fun ar21 => some (y18.1, 0, ar21)) else (some ([], 6, ar1)))
set_option maxRecDepth 100000 in
set_option maxHeartbeats 4000000 in
theorem go_files_Disk_Read.walk {w0 w : World} {Γ1 : List Nat} {X : List Res} {z0 : Zp} {p0 : filesDisk} {g0 : Nat} {gm1 : Nat} {E1 : Array MapEntry} {c1 : Nat} {gm2 : Nat} {E2 : Array MapEntry} {c2 : Nat} {A3 : Option Addr} {c3 : Nat} {d3 : List Value} {p1 : Str} {ar1 : List filesfile} {Ha1 : List Res} {r : List UInt8 × Int × List filesfile} (hst : Ht w0 (frz z0 :: (blk g0 [.map (some gm1), .map (some gm2), .slice A3 p0.wait_.length c3, vi p0.room_, vi p0.left_, vb p0.down_, vi p0.calls_] 68) :: (ob gm1 (.map E1 c1)) :: (ob gm2 (.map E2 c2)) :: (orow 78 1 (.slice A3 p0.wait_.length c3) p0.wait_.length d3) :: (Ha1 ++ X)) w) (f1 : Mr (tA Γ1) pk1 z0 E1 c1 p0.now_) (f2 : Mr (tA Γ1) pk1 z0 E2 c2 p0.safe_) (f3 : Cs (tSl (tfileschange Γ1)) z0 d3 p0.wait_) (hA1 : Ar1 z0 Γ1 ar1 Ha1) (hf : go_files_Disk_Read p0 p1 ar1 = some r) :
    Calls Try.prog 16 #[.pointer (some ⟨g0, 0, none⟩), vs p1] w fun e w' => ∃ (z' : Zp) (A9001 : Option Addr) (c9001 : Nat) (d9001 : List Value) (Ha9003 : List Res), e = .returned (.tuple #[.slice A9001 r.1.length c9001, vi r.2.1]) ∧ Le z0 z' ∧ Cs tU8 z' d9001 r.1 ∧ Ar1 z' Γ1 r.2.2 Ha9003 ∧ Ht w0 (frz z' :: (blk g0 [.map (some gm1), .map (some gm2), .slice A3 p0.wait_.length c3, vi p0.room_, vi p0.left_, vb p0.down_, vi p0.calls_] 68) :: (ob gm1 (.map E1 c1)) :: (ob gm2 (.map E2 c2)) :: (orow 78 1 (.slice A3 p0.wait_.length c3) p0.wait_.length d3) :: (orow 5 1 (.slice A9001 r.1.length c9001) r.1.length d9001) :: (Ha9003 ++ X)) w' := by
  refine calls_np Try.func16 rfl rfl ?_
  have hle0 := Le.refl z0
  unfold go_files_Disk_Read at hf
  have hGi1 := List.prefix_rfl (l := Γ1)
  refine Run.seq ?_
  refine Run.region ?_
  refine Ops.ex (Ex.assign rfl) rfl rfl rfl ?_
  refine Ops.ex (Ex.assign rfl) rfl rfl rfl ?_
  refine Ops.nil ?_
  refine Run.seq ?_
  refine Run.region ?_
  refine Ops.ex (Ex.move rfl) rfl rfl rfl ?_
  refine Ops.ex (Ex.nilCheck rfl) rfl rfl rfl ?_
  refine Ops.ex (Ex.fieldAddr rfl Try.underlying68 rfl sz65) rfl rfl rfl ?_
  refine Ops.load rfl Try.underlying65 rfl (hst.cell (i := 1) rfl rfl) rfl ?_
  refine Ops.ex (Ex.move rfl) rfl rfl rfl ?_
  refine Ops.mlook (zcs := [.pointer none]) (s := p1) none (Mr.own f1 hst (i := 2) rfl) rfl rfl Try.underlying65 Try.underlying9 zr69 ⟨_, rfl, (PtA.nil _)⟩ rfl (fun cs9 hR9 => ?_)
  obtain ⟨A10, rfl, f10⟩ := hR9
  refine Ops.ex (Ex.move rfl) rfl rfl rfl ?_
  refine Ops.ex (Ex.extract rfl rfl) rfl rfl rfl ?_
  refine Ops.ex (Ex.extract rfl rfl) rfl rfl rfl ?_
  refine Ops.ex (Ex.assign rfl) rfl rfl rfl ?_
  refine Ops.ex (Ex.assign rfl) rfl rfl rfl ?_
  refine Ops.nil ?_
  refine Run.seq ?_
  refine Run.block ?_
  refine Run.seq ?_
  refine Run.region ?_
  refine Ops.ex (Ex.move rfl) rfl rfl rfl ?_
  refine Ops.ex (Ex.nilCheck rfl) rfl rfl rfl ?_
  refine Ops.ex (Ex.fieldAddr rfl Try.underlying68 rfl sz4) rfl rfl rfl ?_
  refine Ops.load rfl Try.underlying4 rfl (hst.cell (i := 1) rfl rfl) rfl ?_
  refine Ops.ex (Ex.assign rfl) rfl rfl rfl ?_
  refine Ops.nil ?_
  refine Run.cond rfl (fun hc => ?_) (fun hc => ?_)
  · replace hf := ifTb hc hf
    refine Run.seq ?_
    refine Run.region ?_
    refine Ops.ex (Ex.assign rfl) rfl rfl rfl ?_
    refine Ops.ex (Ex.assign rfl) rfl rfl rfl ?_
    refine Ops.nil ?_
    have hst11 := St.row0 hst 5 1
    obtain rfl := Option.some.inj hf
    exact Run.retV [.slice none 0 0, vi 7] rfl ⟨rfl, rfl, trivial⟩ ⟨z0, none, 0, [], Ha1, rfl, hle0, (Cs.nil _ _), hA1, (St.up (St.up (St.up (St.up (St.up (St.up hst11 1 rfl) 5 rfl) 5 rfl) 5 rfl) 5 rfl) 5 rfl)⟩
  · replace hf := ifFb hc hf
    refine Run.seq ?_
    refine Run.region ?_
    refine Ops.ex (Ex.move rfl) rfl rfl rfl ?_
    refine Ops.ex (Ex.not rfl) rfl rfl rfl ?_
    refine Ops.ex (Ex.assign rfl) rfl rfl rfl ?_
    refine Ops.nil ?_
    refine Run.cond rfl (fun hc => ?_) (fun hc => ?_)
    · replace hf := ifFb (bn_T hc) hf
      refine Run.seq ?_
      refine Run.region ?_
      refine Ops.ex (Ex.assign rfl) rfl rfl rfl ?_
      refine Ops.ex (Ex.assign rfl) rfl rfl rfl ?_
      refine Ops.nil ?_
      have hst13 := St.row0 hst 5 1
      obtain rfl := Option.some.inj hf
      exact Run.retV [.slice none 0 0, vi 6] rfl ⟨rfl, rfl, trivial⟩ ⟨z0, none, 0, [], Ha1, rfl, hle0, (Cs.nil _ _), hA1, (St.up (St.up (St.up (St.up (St.up (St.up hst13 1 rfl) 5 rfl) 5 rfl) 5 rfl) 5 rfl) 5 rfl)⟩
    · replace hf := ifTb (bn_F hc) hf
      refine Run.skip ?_
      refine Run.endBlk ?_
      refine Run.seq ?_
      refine Run.region ?_
      refine Ops.ex (Ex.move rfl) rfl rfl rfl ?_
      obtain ⟨i15, hi15, hf⟩ := bnd hf
      obtain ⟨y15, hy15, hf⟩ := bnd hf
      obtain ⟨g15, hA15, hg15⟩ := PtA.some f10 hi15
      obtain ⟨rs15, Hr15, hO15, hP15, hcl15, hba15⟩ := ArL.open O1.mono hA1 hg15 hy15
      obtain ⟨A16, c16, _, d16, f16, rfl, rfl⟩ := hO15
      have hst15 : Ht w0 (frz z0 :: (blk g0 [.map (some gm1), .map (some gm2), .slice A3 p0.wait_.length c3, vi p0.room_, vi p0.left_, vb p0.down_, vi p0.calls_] 68) :: (ob gm1 (.map E1 c1)) :: (ob gm2 (.map E2 c2)) :: (orow 78 1 (.slice A3 p0.wait_.length c3) p0.wait_.length d3) :: (blk g15 [.slice A16 y15.b_.length c16, vi y15.safe_] 73) :: (orow 5 1 (.slice A16 y15.b_.length c16) y15.b_.length d16) :: (Hr15 ++ X)) _ := St.tailP (B := [blk g0 [.map (some gm1), .map (some gm2), .slice A3 p0.wait_.length c3, vi p0.room_, vi p0.left_, vb p0.down_, vi p0.calls_] 68, ob gm1 (.map E1 c1), ob gm2 (.map E2 c2), orow 78 1 (.slice A3 p0.wait_.length c3) p0.wait_.length d3]) hst hP15
      refine Ops.ex (Ex.nilP hA15 rfl) rfl rfl rfl ?_
      refine Ops.ex (Ex.fieldAddr rfl Try.underlying73 rfl sz22) rfl rfl rfl ?_
      refine Ops.load rfl Try.underlying22 rfl (hst15.cell (i := 5) rfl rfl) rfl ?_
      obtain ⟨y18, hy18, hf⟩ := bnd hf
      refine Ops.call rfl rfl Try.func37 (by kernel_rfl) (by kernel_rfl) rfl (go_slices_Clone_byte_byte.walk (p0 := y15.b_) (hst := (St.up (St.up (St.up (St.up (St.up (St.up (St.up hst15 5 rfl) 5 rfl) 5 rfl) 5 rfl) 5 rfl) 6 rfl) 6 rfl)) (f1 := f16) (hn1 := rfl) (hf := hy18)) ?_
      rintro _ w18 ⟨z18, A19, c19, d19, d20, rfl, hz18, f19, f20, hn20, hst18⟩
      refine ⟨_, rfl, ?_⟩
      replace f10 := f10.mono hz18; replace f1 := f1.mono hz18; replace f2 := f2.mono hz18; replace f3 := f3.mono hz18
      replace hle0 := hle0.trans hz18
      refine Ops.ex (Ex.assign rfl) rfl rfl rfl ?_
      refine Ops.ex (Ex.assign rfl) rfl rfl rfl ?_
      refine Ops.nil ?_
      have hA21 : Ar1 z18 Γ1 (ar1.set i15 (⟨y18.2, y15.safe_⟩ : filesfile)) ([blk g15 [.slice A16 y15.b_.length c16, vi y15.safe_] 73, orow 5 1 (.slice A16 y15.b_.length c16) y15.b_.length d20] ++ Hr15) := hcl15 _ hle0 _ _ ⟨_, _, _, _, f20, hn20, rfl⟩
      obtain ⟨ar21, hy21, hf⟩ := bnd hf
      rw [Option.some.inj hy21] at hA21
      have hst21 : Ht w0 (frz z18 :: (orow 5 1 (.slice A19 y18.1.length c19) y18.1.length d19) :: (blk g0 [.map (some gm1), .map (some gm2), .slice A3 p0.wait_.length c3, vi p0.room_, vi p0.left_, vb p0.down_, vi p0.calls_] 68) :: (ob gm1 (.map E1 c1)) :: (ob gm2 (.map E2 c2)) :: (orow 78 1 (.slice A3 p0.wait_.length c3) p0.wait_.length d3) :: (([blk g15 [.slice A16 y15.b_.length c16, vi y15.safe_] 73, orow 5 1 (.slice A16 y15.b_.length c16) y15.b_.length d20] ++ Hr15) ++ X)) _ := (St.up (St.up (St.up (St.up (St.up (St.up (St.up (St.up hst18 1 rfl) 7 rfl) 7 rfl) 7 rfl) 7 rfl) 7 rfl) 7 rfl) 7 rfl)
      obtain rfl := Option.some.inj hf
      exact Run.retV [.slice A19 y18.1.length c19, vi 0] rfl ⟨rfl, rfl, trivial⟩ ⟨z18, A19, c19, d19, ([blk g15 [.slice A16 y15.b_.length c16, vi y15.safe_] 73, orow 5 1 (.slice A16 y15.b_.length c16) y15.b_.length d20] ++ Hr15), rfl, hle0, f19, hA21, (St.up (St.up (St.up (St.up (St.up (St.up hst21 1 rfl) 5 rfl) 5 rfl) 5 rfl) 5 rfl) 5 rfl)⟩
def go_files_Disk_Sync (p0 : filesDisk) (p1 : Str) (ar1 : List filesfile) : Option (Int × filesDisk × List filesfile) :=
  if p0.down_ then (some (7, p0, ar1)) else (if (mget p0.now_ p1).isSome then ((go_files_Disk_call p0).bind fun y11 => if y11.1 then ((((mget p0.now_ p1).getD none)).bind fun i20 => (ar1[i20]?).bind fun y20 => (some (ar1.set i20 (⟨y20.b_, (y20.b_.length : Int)⟩ : filesfile))).bind fun ar25 => some (0, y11.2, ar25)) else (some (7, y11.2, ar1))) else (some (6, p0, ar1)))
set_option maxRecDepth 100000 in
set_option maxHeartbeats 4000000 in
theorem go_files_Disk_Sync.walk {w0 w : World} {Γ1 : List Nat} {X : List Res} {z0 : Zp} {p0 : filesDisk} {g0 : Nat} {gm1 : Nat} {E1 : Array MapEntry} {c1 : Nat} {gm2 : Nat} {E2 : Array MapEntry} {c2 : Nat} {A3 : Option Addr} {c3 : Nat} {d3 : List Value} {p1 : Str} {ar1 : List filesfile} {Ha1 : List Res} {r : Int × filesDisk × List filesfile} (hst : Ht w0 (frz z0 :: (blk g0 [.map (some gm1), .map (some gm2), .slice A3 p0.wait_.length c3, vi p0.room_, vi p0.left_, vb p0.down_, vi p0.calls_] 68) :: (ob gm1 (.map E1 c1)) :: (ob gm2 (.map E2 c2)) :: (orow 78 1 (.slice A3 p0.wait_.length c3) p0.wait_.length d3) :: (Ha1 ++ X)) w) (f1 : Mr (tA Γ1) pk1 z0 E1 c1 p0.now_) (f2 : Mr (tA Γ1) pk1 z0 E2 c2 p0.safe_) (f3 : Cs (tSl (tfileschange Γ1)) z0 d3 p0.wait_) (hA1 : Ar1 z0 Γ1 ar1 Ha1) (hf : go_files_Disk_Sync p0 p1 ar1 = some r) :
    Calls Try.prog 18 #[.pointer (some ⟨g0, 0, none⟩), vs p1] w fun e w' => ∃ (z' : Zp) (gm9002 : Nat) (E9002 : Array MapEntry) (c9002 : Nat) (gm9003 : Nat) (E9003 : Array MapEntry) (c9003 : Nat) (A9004 : Option Addr) (c9004 : Nat) (d9004 : List Value) (Ha9009 : List Res), e = .returned (vi r.1) ∧ Le z0 z' ∧ Mr (tA Γ1) pk1 z' E9002 c9002 r.2.1.now_ ∧ Mr (tA Γ1) pk1 z' E9003 c9003 r.2.1.safe_ ∧ Cs (tSl (tfileschange Γ1)) z' d9004 r.2.1.wait_ ∧ Ar1 z' Γ1 r.2.2 Ha9009 ∧ Ht w0 (frz z' :: (blk g0 [.map (some gm9002), .map (some gm9003), .slice A9004 r.2.1.wait_.length c9004, vi r.2.1.room_, vi r.2.1.left_, vb r.2.1.down_, vi r.2.1.calls_] 68) :: (ob gm9002 (.map E9002 c9002)) :: (ob gm9003 (.map E9003 c9003)) :: (orow 78 1 (.slice A9004 r.2.1.wait_.length c9004) r.2.1.wait_.length d9004) :: (Ha9009 ++ X)) w' := by
  refine calls_np Try.func18 rfl rfl ?_
  have hle0 := Le.refl z0
  unfold go_files_Disk_Sync at hf
  have hGi1 := List.prefix_rfl (l := Γ1)
  refine Run.seq ?_
  refine Run.region ?_
  refine Ops.ex (Ex.assign rfl) rfl rfl rfl ?_
  refine Ops.nil ?_
  refine Run.seq ?_
  refine Run.region ?_
  refine Ops.ex (Ex.move rfl) rfl rfl rfl ?_
  refine Ops.ex (Ex.nilCheck rfl) rfl rfl rfl ?_
  refine Ops.ex (Ex.fieldAddr rfl Try.underlying68 rfl sz65) rfl rfl rfl ?_
  refine Ops.load rfl Try.underlying65 rfl (hst.cell (i := 1) rfl rfl) rfl ?_
  refine Ops.ex (Ex.move rfl) rfl rfl rfl ?_
  refine Ops.mlook (zcs := [.pointer none]) (s := p1) none (Mr.own f1 hst (i := 2) rfl) rfl rfl Try.underlying65 Try.underlying9 zr69 ⟨_, rfl, (PtA.nil _)⟩ rfl (fun cs9 hR9 => ?_)
  obtain ⟨A10, rfl, f10⟩ := hR9
  refine Ops.ex (Ex.move rfl) rfl rfl rfl ?_
  refine Ops.ex (Ex.extract rfl rfl) rfl rfl rfl ?_
  refine Ops.ex (Ex.extract rfl rfl) rfl rfl rfl ?_
  refine Ops.ex (Ex.assign rfl) rfl rfl rfl ?_
  refine Ops.ex (Ex.assign rfl) rfl rfl rfl ?_
  refine Ops.nil ?_
  refine Run.seq ?_
  refine Run.block ?_
  refine Run.seq ?_
  refine Run.region ?_
  refine Ops.ex (Ex.move rfl) rfl rfl rfl ?_
  refine Ops.ex (Ex.nilCheck rfl) rfl rfl rfl ?_
  refine Ops.ex (Ex.fieldAddr rfl Try.underlying68 rfl sz4) rfl rfl rfl ?_
  refine Ops.load rfl Try.underlying4 rfl (hst.cell (i := 1) rfl rfl) rfl ?_
  refine Ops.ex (Ex.assign rfl) rfl rfl rfl ?_
  refine Ops.nil ?_
  refine Run.cond rfl (fun hc => ?_) (fun hc => ?_)
  · replace hf := ifTb hc hf
    refine Run.seq ?_
    refine Run.region ?_
    refine Ops.ex (Ex.assign rfl) rfl rfl rfl ?_
    refine Ops.nil ?_
    obtain rfl := Option.some.inj hf
    exact Run.retV [vi 7] rfl ⟨rfl, trivial⟩ ⟨z0, gm1, E1, c1, gm2, E2, c2, A3, c3, d3, Ha1, rfl, hle0, f1, f2, f3, hA1, hst⟩
  · replace hf := ifFb hc hf
    refine Run.seq ?_
    refine Run.region ?_
    refine Ops.ex (Ex.move rfl) rfl rfl rfl ?_
    refine Ops.ex (Ex.not rfl) rfl rfl rfl ?_
    refine Ops.ex (Ex.assign rfl) rfl rfl rfl ?_
    refine Ops.nil ?_
    refine Run.cond rfl (fun hc => ?_) (fun hc => ?_)
    · replace hf := ifFb (bn_T hc) hf
      refine Run.seq ?_
      refine Run.region ?_
      refine Ops.ex (Ex.assign rfl) rfl rfl rfl ?_
      refine Ops.nil ?_
      obtain rfl := Option.some.inj hf
      exact Run.retV [vi 6] rfl ⟨rfl, trivial⟩ ⟨z0, gm1, E1, c1, gm2, E2, c2, A3, c3, d3, Ha1, rfl, hle0, f1, f2, f3, hA1, hst⟩
    · replace hf := ifTb (bn_F hc) hf
      refine Run.seq ?_
      refine Run.region ?_
      refine Ops.ex (Ex.move rfl) rfl rfl rfl ?_
      obtain ⟨y11, hy11, hf⟩ := bnd hf
      refine Ops.call rfl rfl Try.func35 (by kernel_rfl) (by kernel_rfl) rfl (go_files_Disk_call.walk (Γ1 := Γ1) (p0 := p0) (hst := hst) (f1 := f1) (f2 := f2) (f3 := f3) (hf := hy11)) ?_
      rintro _ w11 ⟨z11, gm13, E13, c13, gm14, E14, c14, A15, c15, d15, rfl, hz11, f13, f14, f15, hst11⟩
      refine ⟨_, rfl, ?_⟩
      replace f10 := f10.mono hz11; replace hA1 := hA1.mono hz11
      replace hle0 := hle0.trans hz11
      refine Ops.ex (Ex.not rfl) rfl rfl rfl ?_
      refine Ops.ex (Ex.assign rfl) rfl rfl rfl ?_
      refine Ops.nil ?_
      refine Run.cond rfl (fun hc => ?_) (fun hc => ?_)
      · replace hf := ifFb (bn_T hc) hf
        refine Run.seq ?_
        refine Run.region ?_
        refine Ops.ex (Ex.assign rfl) rfl rfl rfl ?_
        refine Ops.nil ?_
        obtain rfl := Option.some.inj hf
        exact Run.retV [vi 7] rfl ⟨rfl, trivial⟩ ⟨z11, gm13, E13, c13, gm14, E14, c14, A15, c15, d15, Ha1, rfl, hle0, f13, f14, f15, hA1, hst11⟩
      · replace hf := ifTb (bn_F hc) hf
        refine Run.skip ?_
        refine Run.endBlk ?_
        refine Run.seq ?_
        refine Run.region ?_
        refine Ops.ex (Ex.move rfl) rfl rfl rfl ?_
        refine Ops.ex (Ex.move rfl) rfl rfl rfl ?_
        have hm21 := Le.refl z11
        obtain ⟨i20, hi20, hf⟩ := bnd hf
        obtain ⟨y20, hy20, hf⟩ := bnd hf
        obtain ⟨g20, hA20, hg20⟩ := PtA.some f10 hi20
        obtain ⟨rs20, Hr20, hO20, hP20, hcl20, hba20⟩ := ArL.open O1.mono hA1 hg20 hy20
        obtain ⟨A22, c22, _, d22, f22, rfl, rfl⟩ := hO20
        have hst20 : Ht w0 (frz z11 :: (blk g0 [.map (some gm13), .map (some gm14), .slice A15 y11.2.wait_.length c15, vi y11.2.room_, vi y11.2.left_, vb y11.2.down_, vi y11.2.calls_] 68) :: (ob gm13 (.map E13 c13)) :: (ob gm14 (.map E14 c14)) :: (orow 78 1 (.slice A15 y11.2.wait_.length c15) y11.2.wait_.length d15) :: (blk g20 [.slice A22 y20.b_.length c22, vi y20.safe_] 73) :: (orow 5 1 (.slice A22 y20.b_.length c22) y20.b_.length d22) :: (Hr20 ++ X)) _ := St.tailP (B := [blk g0 [.map (some gm13), .map (some gm14), .slice A15 y11.2.wait_.length c15, vi y11.2.room_, vi y11.2.left_, vb y11.2.down_, vi y11.2.calls_] 68, ob gm13 (.map E13 c13), ob gm14 (.map E14 c14), orow 78 1 (.slice A15 y11.2.wait_.length c15) y11.2.wait_.length d15]) hst11 hP20
        refine Ops.ex (Ex.nilP hA20 rfl) rfl rfl rfl ?_
        refine Ops.ex (Ex.fieldAddr rfl Try.underlying73 rfl sz22) rfl rfl rfl ?_
        refine Ops.load rfl Try.underlying22 rfl (hst20.cell (i := 5) rfl rfl) rfl ?_
        refine Ops.ex (Ex.len' rfl rfl rfl Try.underlying22) rfl rfl rfl ?_
        refine Ops.ex (Ex.nilP hA20 rfl) rfl rfl rfl ?_
        refine Ops.ex (Ex.fieldAddr rfl Try.underlying73 rfl sz3) rfl rfl rfl ?_
        refine Ops.store 5 [vi (y20.b_.length : Int)] hst20 rfl rfl rfl rfl sz3 rfl (by simp [Value.oneCell']) (by simp) (fun w24 hst24 => ?_)
        refine Ops.nil ?_
        have hA25 : Ar1 z11 Γ1 (ar1.set i20 (⟨y20.b_, (y20.b_.length : Int)⟩ : filesfile)) ([blk g20 [.slice A22 y20.b_.length c22, vi (y20.b_.length : Int)] 73, orow 5 1 (.slice A22 y20.b_.length c22) y20.b_.length d22] ++ Hr20) := hcl20 _ hm21 _ _ ⟨_, _, _, _, f22, rfl, rfl⟩
        obtain ⟨ar25, hy25, hf⟩ := bnd hf
        rw [Option.some.inj hy25] at hA25
        have hst25 : Ht w0 (frz z11 :: (blk g0 [.map (some gm13), .map (some gm14), .slice A15 y11.2.wait_.length c15, vi y11.2.room_, vi y11.2.left_, vb y11.2.down_, vi y11.2.calls_] 68) :: (ob gm13 (.map E13 c13)) :: (ob gm14 (.map E14 c14)) :: (orow 78 1 (.slice A15 y11.2.wait_.length c15) y11.2.wait_.length d15) :: (([blk g20 [.slice A22 y20.b_.length c22, vi (y20.b_.length : Int)] 73, orow 5 1 (.slice A22 y20.b_.length c22) y20.b_.length d22] ++ Hr20) ++ X)) _ := hst24
        refine Run.seq ?_
        refine Run.region ?_
        refine Ops.ex (Ex.assign rfl) rfl rfl rfl ?_
        refine Ops.nil ?_
        obtain rfl := Option.some.inj hf
        exact Run.retV [vi 0] rfl ⟨rfl, trivial⟩ ⟨z11, gm13, E13, c13, gm14, E14, c14, A15, c15, d15, ([blk g20 [.slice A22 y20.b_.length c22, vi (y20.b_.length : Int)] 73, orow 5 1 (.slice A22 y20.b_.length c22) y20.b_.length d22] ++ Hr20), rfl, hle0, f13, f14, f15, hA25, hst25⟩
def go_files_Disk_Remove (p0 : filesDisk) (p1 : Str) : Option (Int × filesDisk) :=
  if p0.down_ then (some (7, p0)) else (if (mget p0.now_ p1).isSome then ((go_files_Disk_call p0).bind fun y11 => if y11.1 then ((go_files_Disk_set y11.2 [(⟨p1, none⟩ : fileschange)]).bind fun y21 => some (0, y21)) else (some (7, y11.2))) else (some (6, p0)))
set_option maxRecDepth 100000 in
set_option maxHeartbeats 4000000 in
theorem go_files_Disk_Remove.walk {w0 w : World} {Γ1 : List Nat} {X : List Res} {z0 : Zp} {p0 : filesDisk} {g0 : Nat} {gm1 : Nat} {E1 : Array MapEntry} {c1 : Nat} {gm2 : Nat} {E2 : Array MapEntry} {c2 : Nat} {A3 : Option Addr} {c3 : Nat} {d3 : List Value} {p1 : Str} {r : Int × filesDisk} (hst : Ht w0 (frz z0 :: (blk g0 [.map (some gm1), .map (some gm2), .slice A3 p0.wait_.length c3, vi p0.room_, vi p0.left_, vb p0.down_, vi p0.calls_] 68) :: (ob gm1 (.map E1 c1)) :: (ob gm2 (.map E2 c2)) :: (orow 78 1 (.slice A3 p0.wait_.length c3) p0.wait_.length d3) :: X) w) (f1 : Mr (tA Γ1) pk1 z0 E1 c1 p0.now_) (f2 : Mr (tA Γ1) pk1 z0 E2 c2 p0.safe_) (f3 : Cs (tSl (tfileschange Γ1)) z0 d3 p0.wait_) (hf : go_files_Disk_Remove p0 p1 = some r) :
    Calls Try.prog 42 #[.pointer (some ⟨g0, 0, none⟩), vs p1] w fun e w' => ∃ (z' : Zp) (gm9002 : Nat) (E9002 : Array MapEntry) (c9002 : Nat) (gm9003 : Nat) (E9003 : Array MapEntry) (c9003 : Nat) (A9004 : Option Addr) (c9004 : Nat) (d9004 : List Value), e = .returned (vi r.1) ∧ Le z0 z' ∧ Mr (tA Γ1) pk1 z' E9002 c9002 r.2.now_ ∧ Mr (tA Γ1) pk1 z' E9003 c9003 r.2.safe_ ∧ Cs (tSl (tfileschange Γ1)) z' d9004 r.2.wait_ ∧ Ht w0 (frz z' :: (blk g0 [.map (some gm9002), .map (some gm9003), .slice A9004 r.2.wait_.length c9004, vi r.2.room_, vi r.2.left_, vb r.2.down_, vi r.2.calls_] 68) :: (ob gm9002 (.map E9002 c9002)) :: (ob gm9003 (.map E9003 c9003)) :: (orow 78 1 (.slice A9004 r.2.wait_.length c9004) r.2.wait_.length d9004) :: X) w' := by
  refine calls_np Try.func42 rfl rfl ?_
  have hle0 := Le.refl z0
  unfold go_files_Disk_Remove at hf
  refine Run.seq ?_
  refine Run.region ?_
  refine Ops.ex (Ex.assign rfl) rfl rfl rfl ?_
  refine Ops.nil ?_
  refine Run.seq ?_
  refine Run.seq ?_
  refine Run.region ?_
  refine Ops.ex (Ex.move rfl) rfl rfl rfl ?_
  refine Ops.ex (Ex.nilCheck rfl) rfl rfl rfl ?_
  refine Ops.ex (Ex.fieldAddr rfl Try.underlying68 rfl sz65) rfl rfl rfl ?_
  refine Ops.load rfl Try.underlying65 rfl (hst.cell (i := 1) rfl rfl) rfl ?_
  refine Ops.ex (Ex.move rfl) rfl rfl rfl ?_
  refine Ops.mlook (zcs := [.pointer none]) (s := p1) none (Mr.own f1 hst (i := 2) rfl) rfl rfl Try.underlying65 Try.underlying9 zr69 ⟨_, rfl, (PtA.nil _)⟩ rfl (fun cs9 hR9 => ?_)
  obtain ⟨A10, rfl, f10⟩ := hR9
  refine Ops.ex (Ex.move rfl) rfl rfl rfl ?_
  refine Ops.ex (Ex.extract rfl rfl) rfl rfl rfl ?_
  refine Ops.ex (Ex.extract rfl rfl) rfl rfl rfl ?_
  refine Ops.ex (Ex.assign rfl) rfl rfl rfl ?_
  refine Ops.ex (Ex.assign rfl) rfl rfl rfl ?_
  refine Ops.nil ?_
  refine Run.block ?_
  refine Run.seq ?_
  refine Run.region ?_
  refine Ops.ex (Ex.move rfl) rfl rfl rfl ?_
  refine Ops.ex (Ex.nilCheck rfl) rfl rfl rfl ?_
  refine Ops.ex (Ex.fieldAddr rfl Try.underlying68 rfl sz4) rfl rfl rfl ?_
  refine Ops.load rfl Try.underlying4 rfl (hst.cell (i := 1) rfl rfl) rfl ?_
  refine Ops.ex (Ex.assign rfl) rfl rfl rfl ?_
  refine Ops.nil ?_
  refine Run.cond rfl (fun hc => ?_) (fun hc => ?_)
  · replace hf := ifTb hc hf
    refine Run.seq ?_
    refine Run.region ?_
    refine Ops.ex (Ex.assign rfl) rfl rfl rfl ?_
    refine Ops.nil ?_
    obtain rfl := Option.some.inj hf
    exact Run.retV [vi 7] rfl ⟨rfl, trivial⟩ ⟨z0, gm1, E1, c1, gm2, E2, c2, A3, c3, d3, rfl, hle0, f1, f2, f3, hst⟩
  · replace hf := ifFb hc hf
    refine Run.seq ?_
    refine Run.region ?_
    refine Ops.ex (Ex.move rfl) rfl rfl rfl ?_
    refine Ops.ex (Ex.not rfl) rfl rfl rfl ?_
    refine Ops.ex (Ex.assign rfl) rfl rfl rfl ?_
    refine Ops.nil ?_
    refine Run.cond rfl (fun hc => ?_) (fun hc => ?_)
    · replace hf := ifFb (bn_T hc) hf
      refine Run.seq ?_
      refine Run.region ?_
      refine Ops.ex (Ex.assign rfl) rfl rfl rfl ?_
      refine Ops.nil ?_
      obtain rfl := Option.some.inj hf
      exact Run.retV [vi 6] rfl ⟨rfl, trivial⟩ ⟨z0, gm1, E1, c1, gm2, E2, c2, A3, c3, d3, rfl, hle0, f1, f2, f3, hst⟩
    · replace hf := ifTb (bn_F hc) hf
      refine Run.seq ?_
      refine Run.region ?_
      refine Ops.ex (Ex.move rfl) rfl rfl rfl ?_
      obtain ⟨y11, hy11, hf⟩ := bnd hf
      refine Ops.call rfl rfl Try.func35 (by kernel_rfl) (by kernel_rfl) rfl (go_files_Disk_call.walk (Γ1 := Γ1) (p0 := p0) (hst := hst) (f1 := f1) (f2 := f2) (f3 := f3) (hf := hy11)) ?_
      rintro _ w11 ⟨z11, gm13, E13, c13, gm14, E14, c14, A15, c15, d15, rfl, hz11, f13, f14, f15, hst11⟩
      refine ⟨_, rfl, ?_⟩
      replace f10 := f10.mono hz11
      replace hle0 := hle0.trans hz11
      refine Ops.ex (Ex.not rfl) rfl rfl rfl ?_
      refine Ops.ex (Ex.assign rfl) rfl rfl rfl ?_
      refine Ops.nil ?_
      refine Run.cond rfl (fun hc => ?_) (fun hc => ?_)
      · replace hf := ifFb (bn_T hc) hf
        refine Run.seq ?_
        refine Run.region ?_
        refine Ops.ex (Ex.assign rfl) rfl rfl rfl ?_
        refine Ops.nil ?_
        obtain rfl := Option.some.inj hf
        exact Run.retV [vi 7] rfl ⟨rfl, trivial⟩ ⟨z11, gm13, E13, c13, gm14, E14, c14, A15, c15, d15, rfl, hle0, f13, f14, f15, hst11⟩
      · replace hf := ifTb (bn_F hc) hf
        refine Run.skip ?_
        refine Run.endBlk ?_
        refine Run.seq ?_
        refine Run.region ?_
        refine Ops.ex (Ex.move rfl) rfl rfl rfl ?_
        refine Ops.ex (Ex.move rfl) rfl rfl rfl ?_
        refine Ops.ex (Ex.build [vs p1, .pointer none] rfl Try.underlying75 zr75 (pl75 Try.underlying75) (by kernel_rfl)) rfl rfl rfl ?_
        refine Ops.sliceF [vs p1, .pointer none] hst11 rfl Try.underlying78 sz75 zr75 rfl rfl (by kernel_rfl) rfl (by simp [Value.oneCell']) rfl (fun A20 w20 hst20 => ?_)
        have f20 : Cs (tfileschange Γ1) z11 [vs p1, .pointer none] [(⟨p1, none⟩ : fileschange)] := (Cs.cons (c := [vs p1, .pointer none]) ⟨_, rfl, (PtA.nil _)⟩ (Cs.nil _ _))
        obtain ⟨z22, hz22, f22, hst22⟩ := St.freeze (τ := (tfileschange Γ1)) (xs := [(⟨p1, none⟩ : fileschange)]) hst20 f20 rfl
        replace f10 := f10.mono hz22; replace f13 := f13.mono hz22; replace f14 := f14.mono hz22; replace f15 := f15.mono hz22
        replace hle0 := hle0.trans hz22
        obtain ⟨y21, hy21, hf⟩ := bnd hf
        refine Ops.call rfl rfl Try.func36 (by kernel_rfl) (by kernel_rfl) rfl (go_files_Disk_set.walk (Γ1 := Γ1) (p0 := y11.2) (p1 := [(⟨p1, none⟩ : fileschange)]) (hst := hst22) (f1 := f13) (f2 := f14) (f3 := f15) (f8 := f22) (hf := hy21)) ?_
        rintro _ w21 ⟨z21, gm23, E23, c23, gm24, E24, c24, A25, c25, d25, rfl, hz21, f23, f24, f25, hst21⟩
        refine ⟨_, rfl, ?_⟩
        replace f10 := f10.mono hz21; replace f22 := f22.mono hz21
        replace hle0 := hle0.trans hz21
        refine Ops.nil ?_
        refine Run.seq ?_
        refine Run.region ?_
        refine Ops.ex (Ex.assign rfl) rfl rfl rfl ?_
        refine Ops.nil ?_
        obtain rfl := Option.some.inj hf
        exact Run.retV [vi 0] rfl ⟨rfl, trivial⟩ ⟨z21, gm23, E23, c23, gm24, E24, c24, A25, c25, d25, rfl, hle0, f23, f24, f25, hst21⟩
def go_files_Disk_Cut.j1 (p0 : filesDisk) (p1 : Str) (p2 : Int) (ar1 : List filesfile) (b19 : Bool) : Option (Int × filesDisk × List filesfile) :=
  if b19 then (some (14, p0, ar1)) else ((go_files_Disk_call p0).bind fun y25 => if y25.1 then ((((mget p0.now_ p1).getD none)).bind fun i34 => (ar1[i34]?).bind fun y34 => (cutI y34.b_ 0 p2).bind fun l38 => (go_slices_Clip_byte_byte l38).bind fun y39 => (some (ar1.set i34 (⟨y39, y34.safe_⟩ : filesfile))).bind fun ar44 => (((mget p0.now_ p1).getD none)).bind fun i45 => (ar44[i45]?).bind fun y45 => (some (ar44.set i45 (⟨y45.b_, min y45.safe_ p2⟩ : filesfile))).bind fun ar50 => some (0, y25.2, ar50)) else (some (7, y25.2, ar1)))
def go_files_Disk_Cut (p0 : filesDisk) (p1 : Str) (p2 : Int) (ar1 : List filesfile) : Option (Int × filesDisk × List filesfile) :=
  if p0.down_ then (some (7, p0, ar1)) else (if (mget p0.now_ p1).isSome then (if p2 < 0 then (go_files_Disk_Cut.j1 p0 p1 p2 ar1 true) else ((((mget p0.now_ p1).getD none)).bind fun i20 => (ar1[i20]?).bind fun y20 => go_files_Disk_Cut.j1 p0 p1 p2 ar1 (decide ((y20.b_.length : Int) < p2)))) else (some (6, p0, ar1)))
set_option maxRecDepth 100000 in
set_option maxHeartbeats 4000000 in
theorem go_files_Disk_Cut.walk {w0 w : World} {Γ1 : List Nat} {X : List Res} {z0 : Zp} {p0 : filesDisk} {g0 : Nat} {gm1 : Nat} {E1 : Array MapEntry} {c1 : Nat} {gm2 : Nat} {E2 : Array MapEntry} {c2 : Nat} {A3 : Option Addr} {c3 : Nat} {d3 : List Value} {p1 : Str} {p2 : Int} {ar1 : List filesfile} {Ha1 : List Res} {r : Int × filesDisk × List filesfile} (hst : Ht w0 (frz z0 :: (blk g0 [.map (some gm1), .map (some gm2), .slice A3 p0.wait_.length c3, vi p0.room_, vi p0.left_, vb p0.down_, vi p0.calls_] 68) :: (ob gm1 (.map E1 c1)) :: (ob gm2 (.map E2 c2)) :: (orow 78 1 (.slice A3 p0.wait_.length c3) p0.wait_.length d3) :: (Ha1 ++ X)) w) (f1 : Mr (tA Γ1) pk1 z0 E1 c1 p0.now_) (f2 : Mr (tA Γ1) pk1 z0 E2 c2 p0.safe_) (f3 : Cs (tSl (tfileschange Γ1)) z0 d3 p0.wait_) (hA1 : Ar1 z0 Γ1 ar1 Ha1) (hf : go_files_Disk_Cut p0 p1 p2 ar1 = some r) :
    Calls Try.prog 22 #[.pointer (some ⟨g0, 0, none⟩), vs p1, vi p2] w fun e w' => ∃ (z' : Zp) (gm9002 : Nat) (E9002 : Array MapEntry) (c9002 : Nat) (gm9003 : Nat) (E9003 : Array MapEntry) (c9003 : Nat) (A9004 : Option Addr) (c9004 : Nat) (d9004 : List Value) (Ha9009 : List Res), e = .returned (vi r.1) ∧ Le z0 z' ∧ Mr (tA Γ1) pk1 z' E9002 c9002 r.2.1.now_ ∧ Mr (tA Γ1) pk1 z' E9003 c9003 r.2.1.safe_ ∧ Cs (tSl (tfileschange Γ1)) z' d9004 r.2.1.wait_ ∧ Ar1 z' Γ1 r.2.2 Ha9009 ∧ Ht w0 (frz z' :: (blk g0 [.map (some gm9002), .map (some gm9003), .slice A9004 r.2.1.wait_.length c9004, vi r.2.1.room_, vi r.2.1.left_, vb r.2.1.down_, vi r.2.1.calls_] 68) :: (ob gm9002 (.map E9002 c9002)) :: (ob gm9003 (.map E9003 c9003)) :: (orow 78 1 (.slice A9004 r.2.1.wait_.length c9004) r.2.1.wait_.length d9004) :: (Ha9009 ++ X)) w' := by
  refine calls_np Try.func22 rfl rfl ?_
  have hle0 := Le.refl z0
  unfold go_files_Disk_Cut at hf
  have hGi1 := List.prefix_rfl (l := Γ1)
  refine Run.seq ?_
  refine Run.region ?_
  refine Ops.ex (Ex.assign rfl) rfl rfl rfl ?_
  refine Ops.nil ?_
  refine Run.seq ?_
  refine Run.region ?_
  refine Ops.ex (Ex.move rfl) rfl rfl rfl ?_
  refine Ops.ex (Ex.nilCheck rfl) rfl rfl rfl ?_
  refine Ops.ex (Ex.fieldAddr rfl Try.underlying68 rfl sz65) rfl rfl rfl ?_
  refine Ops.load rfl Try.underlying65 rfl (hst.cell (i := 1) rfl rfl) rfl ?_
  refine Ops.ex (Ex.move rfl) rfl rfl rfl ?_
  refine Ops.mlook (zcs := [.pointer none]) (s := p1) none (Mr.own f1 hst (i := 2) rfl) rfl rfl Try.underlying65 Try.underlying9 zr69 ⟨_, rfl, (PtA.nil _)⟩ rfl (fun cs10 hR10 => ?_)
  obtain ⟨A11, rfl, f11⟩ := hR10
  refine Ops.ex (Ex.move rfl) rfl rfl rfl ?_
  refine Ops.ex (Ex.extract rfl rfl) rfl rfl rfl ?_
  refine Ops.ex (Ex.extract rfl rfl) rfl rfl rfl ?_
  refine Ops.ex (Ex.assign rfl) rfl rfl rfl ?_
  refine Ops.ex (Ex.assign rfl) rfl rfl rfl ?_
  refine Ops.nil ?_
  refine Run.seq ?_
  refine Run.block ?_
  refine Run.seq ?_
  refine Run.region ?_
  refine Ops.ex (Ex.move rfl) rfl rfl rfl ?_
  refine Ops.ex (Ex.nilCheck rfl) rfl rfl rfl ?_
  refine Ops.ex (Ex.fieldAddr rfl Try.underlying68 rfl sz4) rfl rfl rfl ?_
  refine Ops.load rfl Try.underlying4 rfl (hst.cell (i := 1) rfl rfl) rfl ?_
  refine Ops.ex (Ex.assign rfl) rfl rfl rfl ?_
  refine Ops.nil ?_
  refine Run.cond rfl (fun hc => ?_) (fun hc => ?_)
  · replace hf := ifTb hc hf
    refine Run.seq ?_
    refine Run.region ?_
    refine Ops.ex (Ex.assign rfl) rfl rfl rfl ?_
    refine Ops.nil ?_
    obtain rfl := Option.some.inj hf
    exact Run.retV [vi 7] rfl ⟨rfl, trivial⟩ ⟨z0, gm1, E1, c1, gm2, E2, c2, A3, c3, d3, Ha1, rfl, hle0, f1, f2, f3, hA1, hst⟩
  · replace hf := ifFb hc hf
    refine Run.seq ?_
    refine Run.region ?_
    refine Ops.ex (Ex.move rfl) rfl rfl rfl ?_
    refine Ops.ex (Ex.not rfl) rfl rfl rfl ?_
    refine Ops.ex (Ex.assign rfl) rfl rfl rfl ?_
    refine Ops.nil ?_
    refine Run.cond rfl (fun hc => ?_) (fun hc => ?_)
    · replace hf := ifFb (bn_T hc) hf
      refine Run.seq ?_
      refine Run.region ?_
      refine Ops.ex (Ex.assign rfl) rfl rfl rfl ?_
      refine Ops.nil ?_
      obtain rfl := Option.some.inj hf
      exact Run.retV [vi 6] rfl ⟨rfl, trivial⟩ ⟨z0, gm1, E1, c1, gm2, E2, c2, A3, c3, d3, Ha1, rfl, hle0, f1, f2, f3, hA1, hst⟩
    · replace hf := ifTb (bn_F hc) hf
      refine Run.seq ?_
      apply Run.jn (fun e' w' => ∃ (b19 : Bool) (Ha18 : List Res) (z17 : Zp), go_files_Disk_Cut.j1 p0 p1 p2 ar1 b19 = some r ∧ e' = [(0, .pointer (some ⟨g0, 0, none⟩)), (2, vi p2), (7, .pointer A11), (26, vb b19)] ∧ Le z0 z17 ∧ Ar1 z17 Γ1 ar1 Ha18 ∧ Ht w0 (frz z17 :: (blk g0 [.map (some gm1), .map (some gm2), .slice A3 p0.wait_.length c3, vi p0.room_, vi p0.left_, vb p0.down_, vi p0.calls_] 68) :: (ob gm1 (.map E1 c1)) :: (ob gm2 (.map E2 c2)) :: (orow 78 1 (.slice A3 p0.wait_.length c3) p0.wait_.length d3) :: (Ha18 ++ X)) w')
      · intro hj12
        refine Run.region ?_
        refine Ops.ex (Ex.move rfl) rfl rfl rfl ?_
        refine Ops.ex (Ex.lss rfl rfl) rfl rfl rfl ?_
        refine Ops.ex (Ex.move rfl) rfl rfl rfl ?_
        refine Ops.case 29 rfl (fun hc => ?_) (fun hc => ?_)
        · replace hf := ifT (dec_T hc) hf
          refine Ops.off rfl rfl ?_
          refine Ops.off rfl rfl ?_
          refine Ops.off rfl rfl ?_
          refine Ops.off rfl rfl ?_
          refine Ops.off rfl rfl ?_
          refine Ops.off rfl rfl ?_
          refine Ops.off rfl rfl ?_
          refine Ops.ex (Ex.pickT rfl rfl) rfl rfl rfl ?_
          refine Ops.ex (Ex.assign rfl) rfl rfl rfl ?_
          refine Ops.nil ?_
          exact Run.sub (by exact subB_spec ⟨rfl, rfl, rfl, rfl, trivial⟩) (hj12 _ _ ⟨true, Ha1, z0, hf, rfl, hle0, hA1, hst⟩)
        · replace hf := ifF (dec_F hc) hf
          refine Ops.on rfl ?_
          refine Ops.ex (Ex.move rfl) rfl rfl rfl ?_
          refine Ops.on rfl ?_
          refine Ops.ex (Ex.move rfl) rfl rfl rfl ?_
          refine Ops.on rfl ?_
          obtain ⟨i20, hi20, hf⟩ := bnd hf
          obtain ⟨y20, hy20, hf⟩ := bnd hf
          obtain ⟨g20, hA20, hg20⟩ := PtA.some f11 hi20
          obtain ⟨rs20, Hr20, hO20, hP20, hcl20, hba20⟩ := ArL.open O1.mono hA1 hg20 hy20
          obtain ⟨A21, c21, _, d21, f21, rfl, rfl⟩ := hO20
          have hst20 : Ht w0 (frz z0 :: (blk g0 [.map (some gm1), .map (some gm2), .slice A3 p0.wait_.length c3, vi p0.room_, vi p0.left_, vb p0.down_, vi p0.calls_] 68) :: (ob gm1 (.map E1 c1)) :: (ob gm2 (.map E2 c2)) :: (orow 78 1 (.slice A3 p0.wait_.length c3) p0.wait_.length d3) :: (blk g20 [.slice A21 y20.b_.length c21, vi y20.safe_] 73) :: (orow 5 1 (.slice A21 y20.b_.length c21) y20.b_.length d21) :: (Hr20 ++ X)) _ := St.tailP (B := [blk g0 [.map (some gm1), .map (some gm2), .slice A3 p0.wait_.length c3, vi p0.room_, vi p0.left_, vb p0.down_, vi p0.calls_] 68, ob gm1 (.map E1 c1), ob gm2 (.map E2 c2), orow 78 1 (.slice A3 p0.wait_.length c3) p0.wait_.length d3]) hst hP20
          refine Ops.ex (Ex.nilP hA20 rfl) rfl rfl rfl ?_
          refine Ops.on rfl ?_
          refine Ops.ex (Ex.fieldAddr rfl Try.underlying73 rfl sz22) rfl rfl rfl ?_
          refine Ops.on rfl ?_
          refine Ops.load rfl Try.underlying22 rfl (hst20.cell (i := 5) rfl rfl) rfl ?_
          refine Ops.on rfl ?_
          refine Ops.ex (Ex.len' rfl rfl rfl Try.underlying22) rfl rfl rfl ?_
          refine Ops.on rfl ?_
          refine Ops.ex (Ex.gtr rfl rfl) rfl rfl rfl ?_
          refine Ops.ex (Ex.pickF rfl rfl) rfl rfl rfl ?_
          refine Ops.ex (Ex.assign rfl) rfl rfl rfl ?_
          refine Ops.nil ?_
          have hA23 : Ar1 z0 Γ1 ar1 ([blk g20 [.slice A21 y20.b_.length c21, vi y20.safe_] 73, orow 5 1 (.slice A21 y20.b_.length c21) y20.b_.length d21] ++ Hr20) := hba20 _ hle0 _ ⟨_, _, _, _, f21, rfl, rfl⟩
          have hst23 : Ht w0 (frz z0 :: (blk g0 [.map (some gm1), .map (some gm2), .slice A3 p0.wait_.length c3, vi p0.room_, vi p0.left_, vb p0.down_, vi p0.calls_] 68) :: (ob gm1 (.map E1 c1)) :: (ob gm2 (.map E2 c2)) :: (orow 78 1 (.slice A3 p0.wait_.length c3) p0.wait_.length d3) :: (([blk g20 [.slice A21 y20.b_.length c21, vi y20.safe_] 73, orow 5 1 (.slice A21 y20.b_.length c21) y20.b_.length d21] ++ Hr20) ++ X)) _ := hst20
          exact Run.sub (by exact subB_spec ⟨rfl, rfl, rfl, rfl, trivial⟩) (hj12 _ _ ⟨decide ((y20.b_.length : Int) < p2), ([blk g20 [.slice A21 y20.b_.length c21, vi y20.safe_] 73, orow 5 1 (.slice A21 y20.b_.length c21) y20.b_.length d21] ++ Hr20), z0, hf, rfl, hle0, hA23, hst23⟩)
      · rintro e' w24 ⟨b19, Ha18, z17, hf, rfl, hz24, hA18, hst24⟩
        replace f11 := f11.mono hz24; replace f1 := f1.mono hz24; replace f2 := f2.mono hz24; replace f3 := f3.mono hz24
        unfold go_files_Disk_Cut.j1 at hf
        refine Run.cond rfl (fun hc => ?_) (fun hc => ?_)
        · replace hf := ifTb hc hf
          refine Run.seq ?_
          refine Run.region ?_
          refine Ops.ex (Ex.assign rfl) rfl rfl rfl ?_
          refine Ops.nil ?_
          obtain rfl := Option.some.inj hf
          exact Run.retV [vi 14] rfl ⟨rfl, trivial⟩ ⟨z17, gm1, E1, c1, gm2, E2, c2, A3, c3, d3, Ha18, rfl, hz24, f1, f2, f3, hA18, hst24⟩
        · replace hf := ifFb hc hf
          refine Run.seq ?_
          refine Run.region ?_
          refine Ops.ex (Ex.move rfl) rfl rfl rfl ?_
          obtain ⟨y25, hy25, hf⟩ := bnd hf
          refine Ops.call rfl rfl Try.func35 (by kernel_rfl) (by kernel_rfl) rfl (go_files_Disk_call.walk (Γ1 := Γ1) (p0 := p0) (hst := hst24) (f1 := f1) (f2 := f2) (f3 := f3) (hf := hy25)) ?_
          rintro _ w25 ⟨z25, gm27, E27, c27, gm28, E28, c28, A29, c29, d29, rfl, hz25, f27, f28, f29, hst25⟩
          refine ⟨_, rfl, ?_⟩
          replace f11 := f11.mono hz25; replace hA18 := hA18.mono hz25
          replace hz24 := hz24.trans hz25
          refine Ops.ex (Ex.not rfl) rfl rfl rfl ?_
          refine Ops.ex (Ex.assign rfl) rfl rfl rfl ?_
          refine Ops.nil ?_
          refine Run.cond rfl (fun hc => ?_) (fun hc => ?_)
          · replace hf := ifFb (bn_T hc) hf
            refine Run.seq ?_
            refine Run.region ?_
            refine Ops.ex (Ex.assign rfl) rfl rfl rfl ?_
            refine Ops.nil ?_
            obtain rfl := Option.some.inj hf
            exact Run.retV [vi 7] rfl ⟨rfl, trivial⟩ ⟨z25, gm27, E27, c27, gm28, E28, c28, A29, c29, d29, Ha18, rfl, hz24, f27, f28, f29, hA18, hst25⟩
          · replace hf := ifTb (bn_F hc) hf
            refine Run.skip ?_
            refine Run.endBlk ?_
            refine Run.seq ?_
            refine Run.region ?_
            refine Ops.ex (Ex.move rfl) rfl rfl rfl ?_
            refine Ops.ex (Ex.move rfl) rfl rfl rfl ?_
            have hm35 := Le.refl z25
            obtain ⟨i34, hi34, hf⟩ := bnd hf
            obtain ⟨y34, hy34, hf⟩ := bnd hf
            obtain ⟨g34, hA34, hg34⟩ := PtA.some f11 hi34
            obtain ⟨rs34, Hr34, hO34, hP34, hcl34, hba34⟩ := ArL.open O1.mono hA18 hg34 hy34
            obtain ⟨A36, c36, _, d36, f36, rfl, rfl⟩ := hO34
            have hst34 : Ht w0 (frz z25 :: (blk g0 [.map (some gm27), .map (some gm28), .slice A29 y25.2.wait_.length c29, vi y25.2.room_, vi y25.2.left_, vb y25.2.down_, vi y25.2.calls_] 68) :: (ob gm27 (.map E27 c27)) :: (ob gm28 (.map E28 c28)) :: (orow 78 1 (.slice A29 y25.2.wait_.length c29) y25.2.wait_.length d29) :: (blk g34 [.slice A36 y34.b_.length c36, vi y34.safe_] 73) :: (orow 5 1 (.slice A36 y34.b_.length c36) y34.b_.length d36) :: (Hr34 ++ X)) _ := St.tailP (B := [blk g0 [.map (some gm27), .map (some gm28), .slice A29 y25.2.wait_.length c29, vi y25.2.room_, vi y25.2.left_, vb y25.2.down_, vi y25.2.calls_] 68, ob gm27 (.map E27 c27), ob gm28 (.map E28 c28), orow 78 1 (.slice A29 y25.2.wait_.length c29) y25.2.wait_.length d29]) hst25 hP34
            refine Ops.ex (Ex.nilP hA34 rfl) rfl rfl rfl ?_
            refine Ops.ex (Ex.fieldAddr rfl Try.underlying73 rfl sz22) rfl rfl rfl ?_
            refine Ops.load rfl Try.underlying22 rfl (hst34.cell (i := 5) rfl rfl) rfl ?_
            refine Ops.ex (Ex.move rfl) rfl rfl rfl ?_
            obtain ⟨l38, hy38, hf⟩ := bnd hf
            obtain ⟨hl38, f38⟩ := own_pre f36 rfl (hst34.get (i := 6) rfl) hy38
            refine Ops.ex (Ex.preA hl38 hy38 rfl rfl Try.underlying22 sz5 rfl rfl) rfl rfl rfl ?_
            obtain ⟨fC40, hC40⟩ := St.cutRow 6 hst34 rfl f36 rfl hy38 (Nat.le_trans (cut_le hy38 rfl) hl38) (Nat.le_refl _)
            have hst40 : Ht w0 (frz z25 :: (blk g0 [.map (some gm27), .map (some gm28), .slice A29 y25.2.wait_.length c29, vi y25.2.room_, vi y25.2.left_, vb y25.2.down_, vi y25.2.calls_] 68) :: (ob gm27 (.map E27 c27)) :: (ob gm28 (.map E28 c28)) :: (orow 78 1 (.slice A29 y25.2.wait_.length c29) y25.2.wait_.length d29) :: (blk g34 [.slice A36 y34.b_.length c36, vi y34.safe_] 73) :: (orow 5 1 (.slice A36 l38.length c36) l38.length (List.take (l38.length * 1) d36)) :: (Hr34 ++ X)) _ := hC40
            obtain ⟨y39, hy39, hf⟩ := bnd hf
            refine Ops.call rfl rfl Try.func40 (by kernel_rfl) (by kernel_rfl) rfl (go_slices_Clip_byte_byte.walk (p0 := l38) (hst := (St.up (St.up (St.up (St.up (St.up (St.up (St.up hst40 5 rfl) 5 rfl) 5 rfl) 5 rfl) 5 rfl) 6 rfl) 6 rfl)) (f1 := fC40) (hf := hy39)) ?_
            rintro _ w39 ⟨z39, A42, c42, d42, rfl, hz39, f42, hst39⟩
            refine ⟨_, rfl, ?_⟩
            replace f11 := f11.mono hz39; replace f27 := f27.mono hz39; replace f28 := f28.mono hz39; replace f29 := f29.mono hz39
            replace hz24 := hz24.trans hz39
            replace hm35 := hm35.trans hz39
            refine Ops.ex (Ex.nilP hA34 rfl) rfl rfl rfl ?_
            refine Ops.ex (Ex.fieldAddr rfl Try.underlying73 rfl sz22) rfl rfl rfl ?_
            refine Ops.store 6 [.slice A42 y39.length c42] hst39 rfl rfl rfl rfl sz22 rfl (by simp [Value.oneCell']) (by simp) (fun w43 hst43 => ?_)
            refine Ops.nil ?_
            have hA44 : Ar1 z39 Γ1 (ar1.set i34 (⟨y39, y34.safe_⟩ : filesfile)) ([blk g34 [.slice A42 y39.length c42, vi y34.safe_] 73, orow 5 1 (.slice A42 y39.length c42) y39.length d42] ++ Hr34) := hcl34 _ hm35 _ _ ⟨_, _, _, _, f42, rfl, rfl⟩
            obtain ⟨ar44, hy44, hf⟩ := bnd hf
            rw [Option.some.inj hy44] at hA44
            have hst44 : Ht w0 (frz z39 :: (blk g0 [.map (some gm27), .map (some gm28), .slice A29 y25.2.wait_.length c29, vi y25.2.room_, vi y25.2.left_, vb y25.2.down_, vi y25.2.calls_] 68) :: (ob gm27 (.map E27 c27)) :: (ob gm28 (.map E28 c28)) :: (orow 78 1 (.slice A29 y25.2.wait_.length c29) y25.2.wait_.length d29) :: (([blk g34 [.slice A42 y39.length c42, vi y34.safe_] 73, orow 5 1 (.slice A42 y39.length c42) y39.length d42] ++ Hr34) ++ X)) _ := (St.up (St.up (St.up (St.up (St.up (St.up (St.up hst43 1 rfl) 6 rfl) 6 rfl) 6 rfl) 6 rfl) 6 rfl) 6 rfl)
            refine Run.seq ?_
            refine Run.region ?_
            refine Ops.ex (Ex.move rfl) rfl rfl rfl ?_
            refine Ops.ex (Ex.move rfl) rfl rfl rfl ?_
            have hm46 := Le.refl z39
            obtain ⟨i45, hi45, hf⟩ := bnd hf
            obtain ⟨y45, hy45, hf⟩ := bnd hf
            obtain ⟨g45, hA45, hg45⟩ := PtA.some f11 hi45
            obtain ⟨rs45, Hr45, hO45, hP45, hcl45, hba45⟩ := ArL.open O1.mono hA44 hg45 hy45
            obtain ⟨A47, c47, _, d47, f47, rfl, rfl⟩ := hO45
            have hst45 : Ht w0 (frz z39 :: (blk g0 [.map (some gm27), .map (some gm28), .slice A29 y25.2.wait_.length c29, vi y25.2.room_, vi y25.2.left_, vb y25.2.down_, vi y25.2.calls_] 68) :: (ob gm27 (.map E27 c27)) :: (ob gm28 (.map E28 c28)) :: (orow 78 1 (.slice A29 y25.2.wait_.length c29) y25.2.wait_.length d29) :: (blk g45 [.slice A47 y45.b_.length c47, vi y45.safe_] 73) :: (orow 5 1 (.slice A47 y45.b_.length c47) y45.b_.length d47) :: (Hr45 ++ X)) _ := St.tailP (B := [blk g0 [.map (some gm27), .map (some gm28), .slice A29 y25.2.wait_.length c29, vi y25.2.room_, vi y25.2.left_, vb y25.2.down_, vi y25.2.calls_] 68, ob gm27 (.map E27 c27), ob gm28 (.map E28 c28), orow 78 1 (.slice A29 y25.2.wait_.length c29) y25.2.wait_.length d29]) hst44 hP45
            refine Ops.ex (Ex.nilP hA45 rfl) rfl rfl rfl ?_
            refine Ops.ex (Ex.fieldAddr rfl Try.underlying73 rfl sz3) rfl rfl rfl ?_
            refine Ops.load rfl Try.underlying3 rfl (hst45.cell (i := 5) rfl rfl) rfl ?_
            refine Ops.ex (Ex.move rfl) rfl rfl rfl ?_
            refine Ops.ex (Ex.min2 rfl rfl rfl) rfl rfl rfl ?_
            refine Ops.ex (Ex.nilP hA45 rfl) rfl rfl rfl ?_
            refine Ops.ex (Ex.fieldAddr rfl Try.underlying73 rfl sz3) rfl rfl rfl ?_
            refine Ops.store 5 [vi (min y45.safe_ p2)] hst45 rfl rfl rfl rfl sz3 rfl (by simp [Value.oneCell']) (by simp) (fun w49 hst49 => ?_)
            refine Ops.nil ?_
            have hA50 : Ar1 z39 Γ1 (ar44.set i45 (⟨y45.b_, min y45.safe_ p2⟩ : filesfile)) ([blk g45 [.slice A47 y45.b_.length c47, vi (min y45.safe_ p2)] 73, orow 5 1 (.slice A47 y45.b_.length c47) y45.b_.length d47] ++ Hr45) := hcl45 _ hm46 _ _ ⟨_, _, _, _, f47, rfl, rfl⟩
            obtain ⟨ar50, hy50, hf⟩ := bnd hf
            rw [Option.some.inj hy50] at hA50
            have hst50 : Ht w0 (frz z39 :: (blk g0 [.map (some gm27), .map (some gm28), .slice A29 y25.2.wait_.length c29, vi y25.2.room_, vi y25.2.left_, vb y25.2.down_, vi y25.2.calls_] 68) :: (ob gm27 (.map E27 c27)) :: (ob gm28 (.map E28 c28)) :: (orow 78 1 (.slice A29 y25.2.wait_.length c29) y25.2.wait_.length d29) :: (([blk g45 [.slice A47 y45.b_.length c47, vi (min y45.safe_ p2)] 73, orow 5 1 (.slice A47 y45.b_.length c47) y45.b_.length d47] ++ Hr45) ++ X)) _ := hst49
            refine Run.seq ?_
            refine Run.region ?_
            refine Ops.ex (Ex.assign rfl) rfl rfl rfl ?_
            refine Ops.nil ?_
            obtain rfl := Option.some.inj hf
            exact Run.retV [vi 0] rfl ⟨rfl, trivial⟩ ⟨z39, gm27, E27, c27, gm28, E28, c28, A29, c29, d29, ([blk g45 [.slice A47 y45.b_.length c47, vi (min y45.safe_ p2)] 73, orow 5 1 (.slice A47 y45.b_.length c47) y45.b_.length d47] ++ Hr45), rfl, hz24, f27, f28, f29, hA50, hst50⟩
end
end Go.Proofs.Ytbonfgnmipmmbaa.F2
