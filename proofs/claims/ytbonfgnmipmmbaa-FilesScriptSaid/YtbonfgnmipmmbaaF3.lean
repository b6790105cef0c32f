/- Files: a disk, its restart. -/
import Derived.Test.YtbonfgnmipmmbaaF2
import Derived.Test.YtbonfgnmipmmbaaFM
namespace Go.Proofs.Ytbonfgnmipmmbaa.F3
open Go Go.RowKit Go.Proofs.Ytbonfgnmipmmbaa.Sx Go.Proofs.Ytbonfgnmipmmbaa.F1 Go.Proofs.Ytbonfgnmipmmbaa.F2
set_option linter.unusedVariables false
set_option linter.unusedSimpArgs false
noncomputable section
structure law04Act where
  Op : UInt8
  Name : UInt8
  To : UInt8
  Bytes : List UInt8
  N : Int16
  deriving DecidableEq
def tlaw04Act : Ty law04Act where
  sz := 5
  R := fun ζ cs x => ∃ A3 c3, cs = [vu8 x.Op, vu8 x.Name, vu8 x.To, .slice A3 x.Bytes.length c3, vi16 x.N] ∧ Sl tU8 ζ A3 c3 x.Bytes
  len := by rintro ζ cs x ⟨A3, c3, rfl, f3⟩; rfl
  one := by
    rintro ζ cs x ⟨A3, c3, rfl, f3⟩ u hu
    simp only [List.mem_cons, List.not_mem_nil, or_false] at hu
    rcases hu with rfl | rfl | rfl | rfl | rfl <;> rfl
  mono := by rintro ζ ζ' cs x ⟨A3, c3, rfl, f3⟩ hl; exact ⟨A3, c3, rfl, f3.mono hl⟩
theorem sz23 : (Try.prog.info? 23).map (·.size) = some 1 := by kernel_rfl
theorem zr5 : (Try.prog.info? 5).map (·.zero) = some (some (.int .u8 0)) := by kernel_rfl
def go_files_Disk_SyncDir (p0 : filesDisk) : Option (Int × filesDisk) :=
  if p0.down_ then (some (7, p0)) else ((go_files_Disk_call p0).bind fun y8 => if y8.1 then (some (0, (⟨y8.2.now_, y8.2.now_, [], y8.2.room_, y8.2.left_, y8.2.down_, y8.2.calls_⟩ : filesDisk))) else (some (7, y8.2)))
set_option maxRecDepth 100000 in
set_option maxHeartbeats 4000000 in
theorem go_files_Disk_SyncDir.walk {w0 w : World} {Γ1 : List Nat} {X : List Res} {z0 : Zp} {p0 : filesDisk} {g0 : Nat} {gm1 : Nat} {E1 : Array MapEntry} {c1 : Nat} {gm2 : Nat} {E2 : Array MapEntry} {c2 : Nat} {A3 : Option Addr} {c3 : Nat} {d3 : List Value} {r : Int × filesDisk} (hst : Ht w0 (frz z0 :: (blk g0 [.map (some gm1), .map (some gm2), .slice A3 p0.wait_.length c3, vi p0.room_, vi p0.left_, vb p0.down_, vi p0.calls_] 68) :: (ob gm1 (.map E1 c1)) :: (ob gm2 (.map E2 c2)) :: (orow 78 1 (.slice A3 p0.wait_.length c3) p0.wait_.length d3) :: X) w) (f1 : Mr (tA Γ1) pk1 z0 E1 c1 p0.now_) (f2 : Mr (tA Γ1) pk1 z0 E2 c2 p0.safe_) (f3 : Cs (tSl (tfileschange Γ1)) z0 d3 p0.wait_) (hf : go_files_Disk_SyncDir p0 = some r) :
    Calls Try.prog 19 #[.pointer (some ⟨g0, 0, none⟩)] w fun e w' => ∃ (z' : Zp) (gm9002 : Nat) (E9002 : Array MapEntry) (c9002 : Nat) (gm9003 : Nat) (E9003 : Array MapEntry) (c9003 : Nat) (A9004 : Option Addr) (c9004 : Nat) (d9004 : List Value), e = .returned (vi r.1) ∧ Le z0 z' ∧ Mr (tA Γ1) pk1 z' E9002 c9002 r.2.now_ ∧ Mr (tA Γ1) pk1 z' E9003 c9003 r.2.safe_ ∧ Cs (tSl (tfileschange Γ1)) z' d9004 r.2.wait_ ∧ Ht w0 (frz z' :: (blk g0 [.map (some gm9002), .map (some gm9003), .slice A9004 r.2.wait_.length c9004, vi r.2.room_, vi r.2.left_, vb r.2.down_, vi r.2.calls_] 68) :: (ob gm9002 (.map E9002 c9002)) :: (ob gm9003 (.map E9003 c9003)) :: (orow 78 1 (.slice A9004 r.2.wait_.length c9004) r.2.wait_.length d9004) :: X) w' := by
  refine calls_np Try.func19 rfl rfl ?_
  have hle0 := Le.refl z0
  unfold go_files_Disk_SyncDir at hf
  refine Run.seq ?_
  refine Run.region ?_
  refine Ops.ex (Ex.assign rfl) rfl rfl rfl ?_
  refine Ops.nil ?_
  refine Run.seq ?_
  refine Run.seq ?_
  refine Run.region ?_
  refine Ops.ex (Ex.move rfl) rfl rfl rfl ?_
  refine Ops.ex (Ex.nilCheck rfl) rfl rfl rfl ?_
  refine Ops.ex (Ex.fieldAddr rfl Try.underlying68 rfl sz4) rfl rfl rfl ?_
  refine Ops.load rfl Try.underlying4 rfl (hst.cell (i := 1) rfl rfl) rfl ?_
  refine Ops.ex (Ex.move rfl) rfl rfl rfl ?_
  refine Ops.case 7 rfl (fun hc => ?_) (fun hc => ?_)
  · replace hf := ifTb hc hf
    refine Ops.off rfl rfl ?_
    refine Ops.off rfl rfl ?_
    refine Ops.off rfl rfl ?_
    refine Ops.ex (Ex.pickT rfl rfl) rfl rfl rfl ?_
    refine Ops.nil ?_
    refine Run.condT rfl rfl ?_
    refine Run.seq ?_
    refine Run.region ?_
    refine Ops.ex (Ex.assign rfl) rfl rfl rfl ?_
    refine Ops.nil ?_
    obtain rfl := Option.some.inj hf
    exact Run.retV [vi 7] rfl ⟨rfl, trivial⟩ ⟨z0, gm1, E1, c1, gm2, E2, c2, A3, c3, d3, rfl, hle0, f1, f2, f3, hst⟩
  · replace hf := ifFb hc hf
    refine Ops.on rfl ?_
    refine Ops.ex (Ex.move rfl) rfl rfl rfl ?_
    refine Ops.on rfl ?_
    obtain ⟨y8, hy8, hf⟩ := bnd hf
    refine Ops.call rfl rfl Try.func35 (by kernel_rfl) (by kernel_rfl) rfl (go_files_Disk_call.walk (Γ1 := Γ1) (p0 := p0) (hst := hst) (f1 := f1) (f2 := f2) (f3 := f3) (hf := hy8)) ?_
    rintro _ w8 ⟨z8, gm10, E10, c10, gm11, E11, c11, A12, c12, d12, rfl, hz8, f10, f11, f12, hst8⟩
    refine ⟨_, rfl, ?_⟩
    replace hle0 := hle0.trans hz8
    refine Ops.on rfl ?_
    refine Ops.ex (Ex.not rfl) rfl rfl rfl ?_
    refine Ops.ex (Ex.pickF rfl rfl) rfl rfl rfl ?_
    refine Ops.nil ?_
    refine Run.cond rfl (fun hc => ?_) (fun hc => ?_)
    · replace hf := ifFb (bn_T hc) hf
      refine Run.seq ?_
      refine Run.region ?_
      refine Ops.ex (Ex.assign rfl) rfl rfl rfl ?_
      refine Ops.nil ?_
      obtain rfl := Option.some.inj hf
      exact Run.retV [vi 7] rfl ⟨rfl, trivial⟩ ⟨z8, gm10, E10, c10, gm11, E11, c11, A12, c12, d12, rfl, hle0, f10, f11, f12, hst8⟩
    · replace hf := ifTb (bn_F hc) hf
      refine Run.skip ?_
      refine Run.seq ?_
      refine Run.region ?_
      refine Ops.ex (Ex.move rfl) rfl rfl rfl ?_
      refine Ops.ex (Ex.move rfl) rfl rfl rfl ?_
      refine Ops.ex (Ex.move rfl) rfl rfl rfl ?_
      refine Ops.ex (Ex.nilCheck rfl) rfl rfl rfl ?_
      refine Ops.ex (Ex.fieldAddr rfl Try.underlying68 rfl sz65) rfl rfl rfl ?_
      refine Ops.load rfl Try.underlying65 rfl (hst8.cell (i := 1) rfl rfl) rfl ?_
      have f17 := f10
      refine Ops.call rfl rfl Try.func38 (by kernel_rfl) (by kernel_rfl) rfl (FM.cloneM.walk 2 hst8 rfl) ?_
      rintro _ w17 ⟨g17, rfl, hst17⟩
      refine ⟨_, rfl, ?_⟩
      refine Ops.ex (Ex.nilCheck rfl) rfl rfl rfl ?_
      refine Ops.ex (Ex.fieldAddr rfl Try.underlying68 rfl sz65) rfl rfl rfl ?_
      refine Ops.store 2 [.map (some g17)] hst17 rfl rfl rfl rfl sz65 rfl (by simp [Value.oneCell']) (by simp) (fun w18 hst18 => ?_)
      refine Ops.ex (Ex.nilCheck rfl) rfl rfl rfl ?_
      refine Ops.ex (Ex.fieldAddr rfl Try.underlying68 rfl sz66) rfl rfl rfl ?_
      refine Ops.store 2 [.slice none 0 0] hst18 rfl rfl rfl rfl sz66 rfl (by simp [Value.oneCell']) (by simp) (fun w19 hst19 => ?_)
      refine Ops.nil ?_
      refine Run.seq ?_
      refine Run.region ?_
      refine Ops.ex (Ex.assign rfl) rfl rfl rfl ?_
      refine Ops.nil ?_
      have hst20 := St.row0 hst19 78 1
      obtain rfl := Option.some.inj hf
      exact Run.retV [vi 0] rfl ⟨rfl, trivial⟩ ⟨z8, gm10, E10, c10, g17, E10, c10, none, 0, [], rfl, hle0, f10, f17, (Cs.nil _ _), (St.up (St.up (St.up (St.up (St.up (St.forget (St.forget hst20 6) 5) 1 rfl) 2 rfl) 4 rfl) 4 rfl) 4 rfl)⟩
def go_files_Disk_Restart.b2 (i310 : Nat) (a310 : fileschange) : (Mp (Option Nat)) → (Mp (Option Nat) → Option (filesDisk × List filesfile)) → Option (filesDisk × List filesfile) :=
  fun mp342 nxb310 => (go_files_put mp342 a310).bind fun y351 => nxb310 y351
def go_files_Disk_Restart.b3 (p2 : Int) : (Str × Option Nat) → (List filesfile) → (List filesfile → Option (filesDisk × List filesfile)) → Option (filesDisk × List filesfile) :=
  fun a354 ar419 nxb354 => (a354.2).bind fun i430 => (ar419[i430]?).bind fun y430 => (cutI y430.b_ 0 (min (y430.b_.length : Int) (wr (y430.safe_ + (max 0 (min p2 (y430.b_.length : Int))))))).bind fun l435 => (go_slices_Clip_byte_byte l435).bind fun y436 => (some (ar419.set i430 (⟨y436, y430.safe_⟩ : filesfile))).bind fun ar441 => (a354.2).bind fun i442 => (ar441[i442]?).bind fun y442 => (some (ar441.set i442 (⟨y442.b_, (y442.b_.length : Int)⟩ : filesfile))).bind fun ar447 => nxb354 ar447
def go_files_Disk_Restart.b1 (i12 : Nat) (a12 : List fileschange) : (Mp (Option Nat)) → (Mp (Option Nat) → Option (filesDisk × List filesfile)) → Option (filesDisk × List filesfile) :=
  fun mp306 nxb12 => forL (go_files_Disk_Restart.b2) (fun mp342 => nxb12 mp342) 0 a12 mp306
def go_files_Disk_Restart (p0 : filesDisk) (p1 : Int) (p2 : Int) (ar1 : List filesfile) : Option (filesDisk × List filesfile) :=
  (cutI p0.wait_ 0 (max 0 (min p1 (p0.wait_.length : Int)))).bind fun l10 => forL (go_files_Disk_Restart.b1) (fun mp306 => forN (go_files_Disk_Restart.b3 p2) (fun ar419 => some ((⟨mp306, mp306, [], p0.room_, (-1), false, p0.calls_⟩ : filesDisk), ar419)) mp306.length mp306 ar1) 0 l10 p0.safe_
set_option maxRecDepth 100000 in
set_option maxHeartbeats 4000000 in
theorem go_files_Disk_Restart.walk {w0 w : World} {Γ1 : List Nat} {X : List Res} {z0 : Zp} {p0 : filesDisk} {g0 : Nat} {gm1 : Nat} {E1 : Array MapEntry} {c1 : Nat} {gm2 : Nat} {E2 : Array MapEntry} {c2 : Nat} {A3 : Option Addr} {c3 : Nat} {d3 : List Value} {p1 : Int} {p2 : Int} {ar1 : List filesfile} {Ha1 : List Res} {r : filesDisk × List filesfile} (hst : Ht w0 (frz z0 :: (blk g0 [.map (some gm1), .map (some gm2), .slice A3 p0.wait_.length c3, vi p0.room_, vi p0.left_, vb p0.down_, vi p0.calls_] 68) :: (ob gm1 (.map E1 c1)) :: (ob gm2 (.map E2 c2)) :: (orow 78 1 (.slice A3 p0.wait_.length c3) p0.wait_.length d3) :: (Ha1 ++ X)) w) (f1 : Mr (tA Γ1) pk1 z0 E1 c1 p0.now_) (f2 : Mr (tA Γ1) pk1 z0 E2 c2 p0.safe_) (f3 : Cs (tSl (tfileschange Γ1)) z0 d3 p0.wait_) (hA1 : Ar1 z0 Γ1 ar1 Ha1) (hf : go_files_Disk_Restart p0 p1 p2 ar1 = some r) :
    Calls Try.prog 20 #[.pointer (some ⟨g0, 0, none⟩), vi p1, vi p2] w fun e w' => ∃ (z' : Zp) (gm9001 : Nat) (E9001 : Array MapEntry) (c9001 : Nat) (gm9002 : Nat) (E9002 : Array MapEntry) (c9002 : Nat) (A9003 : Option Addr) (c9003 : Nat) (d9003 : List Value) (Ha9008 : List Res), e = .returned (.tuple #[]) ∧ Le z0 z' ∧ Mr (tA Γ1) pk1 z' E9001 c9001 r.1.now_ ∧ Mr (tA Γ1) pk1 z' E9002 c9002 r.1.safe_ ∧ Cs (tSl (tfileschange Γ1)) z' d9003 r.1.wait_ ∧ Ar1 z' Γ1 r.2 Ha9008 ∧ Ht w0 (frz z' :: (blk g0 [.map (some gm9001), .map (some gm9002), .slice A9003 r.1.wait_.length c9003, vi r.1.room_, vi r.1.left_, vb r.1.down_, vi r.1.calls_] 68) :: (ob gm9001 (.map E9001 c9001)) :: (ob gm9002 (.map E9002 c9002)) :: (orow 78 1 (.slice A9003 r.1.wait_.length c9003) r.1.wait_.length d9003) :: (Ha9008 ++ X)) w' := by
  refine calls_np Try.func20 rfl rfl ?_
  have hle0 := Le.refl z0
  unfold go_files_Disk_Restart at hf
  have hGi1 := List.prefix_rfl (l := Γ1)
  refine Run.seq ?_
  refine Run.region ?_
  refine Ops.ex (Ex.move rfl) rfl rfl rfl ?_
  refine Ops.ex (Ex.move rfl) rfl rfl rfl ?_
  refine Ops.ex (Ex.nilCheck rfl) rfl rfl rfl ?_
  refine Ops.ex (Ex.fieldAddr rfl Try.underlying68 rfl sz66) rfl rfl rfl ?_
  refine Ops.load rfl Try.underlying66 rfl (hst.cell (i := 1) rfl rfl) rfl ?_
  refine Ops.ex (Ex.len' rfl rfl rfl Try.underlying66) rfl rfl rfl ?_
  refine Ops.ex (Ex.min2 rfl rfl rfl) rfl rfl rfl ?_
  refine Ops.ex (Ex.max2 rfl rfl rfl) rfl rfl rfl ?_
  refine Ops.ex (Ex.assign rfl) rfl rfl rfl ?_
  refine Ops.nil ?_
  refine Run.seq ?_
  refine Run.seq ?_
  refine Run.region ?_
  refine Ops.ex (Ex.move rfl) rfl rfl rfl ?_
  refine Ops.ex (Ex.nilCheck rfl) rfl rfl rfl ?_
  refine Ops.ex (Ex.fieldAddr rfl Try.underlying68 rfl sz66) rfl rfl rfl ?_
  refine Ops.load rfl Try.underlying66 rfl (hst.cell (i := 1) rfl rfl) rfl ?_
  refine Ops.ex (Ex.move rfl) rfl rfl rfl ?_
  obtain ⟨l10, hy10, hf⟩ := bnd hf
  obtain ⟨hl10, f10⟩ := own_pre f3 rfl (hst.get (i := 4) rfl) hy10
  refine Ops.ex (Ex.preA hl10 hy10 rfl rfl Try.underlying66 sz78 rfl rfl) rfl rfl rfl ?_
  refine Ops.ex (Ex.len' rfl rfl rfl Try.underlying66) rfl rfl rfl ?_
  refine Ops.ex (Ex.move rfl) rfl rfl rfl ?_
  refine Ops.nil ?_
  obtain ⟨z11, hz11, hp11, f11, hst11⟩ := St.freezeP (τ := (tSl (tfileschange Γ1))) (xs := p0.wait_) (St.up (St.up (St.up (St.up (St.up hst 3 rfl) 3 rfl) 3 rfl) 4 rfl) 4 rfl) f3 rfl
  have fv11_0 := SlH.lift (f10 _ hp11) hz11
  replace f1 := f1.mono hz11; replace f2 := f2.mono hz11; replace hA1 := hA1.mono hz11
  replace hle0 := hle0.trans hz11
  refine Run.block ?_
  have hc12 := fv11_0.cap
  have hm13 := Le.refl z11
  refine Run.sub (e' := [(0, .pointer (some ⟨g0, 0, none⟩)), (2, vi p2), (25, .slice A3 l10.length c3), (26, vi (l10.length : Int)), (27, vi ((0 : Nat) : Int))]) (subB_spec ⟨rfl, rfl, rfl, rfl, rfl, trivial⟩) ?_
  refine Run.loop (fun mb12 => (fun e' w' => ∃ (i12 : Nat) (mp306 : Mp (Option Nat)) (Ha305 : List Res) (g306 : Nat) (E306 : Array MapEntry) (c306 : Nat) (z304 : Zp), mb12 = l10.length - i12 ∧ i12 ≤ l10.length ∧ forL (go_files_Disk_Restart.b1) (fun mp306 => forN (go_files_Disk_Restart.b3 p2) (fun ar419 => some ((⟨mp306, mp306, [], p0.room_, (-1), false, p0.calls_⟩ : filesDisk), ar419)) mp306.length mp306 ar1) i12 (l10.drop i12) mp306 = some r ∧ e' = [(0, .pointer (some ⟨g0, 0, none⟩)), (2, vi p2), (25, .slice A3 l10.length c3), (26, vi (l10.length : Int)), (27, vi (i12 : Int))] ∧ Le z11 z304 ∧ Le z0 z304 ∧ Ar1 z304 Γ1 ar1 Ha305 ∧ Mr (tA Γ1) pk1 z304 E306 c306 mp306 ∧ Ht w0 (frz z304 :: (ob g306 (.map E306 c306)) :: (blk g0 [.map (some gm1), .map (some g306), .slice A3 p0.wait_.length c3, vi p0.room_, vi p0.left_, vb p0.down_, vi p0.calls_] 68) :: (ob gm1 (.map E1 c1)) :: (Ha305 ++ X)) w')) l10.length ⟨0, p0.safe_, Ha1, gm2, E2, c2, z11, rfl, Nat.zero_le _, hf, rfl, hm13, hle0, hA1, f2, (St.up (St.up (St.up (St.up hst11 2 rfl) 2 rfl) 3 rfl) 3 rfl)⟩ ?_
  rintro _ e' w307 ⟨i12, mp306, Ha305, g306, E306, c306, z304, rfl, hi12, hf, rfl, hz307, hy307_0, hA305, f306, hst307⟩
  replace fv11_0 := fv11_0.mono hz307; replace f11 := f11.mono hz307; replace f1 := f1.mono hz307
  refine Run.seq ?_
  refine Run.region ?_
  refine Ops.ex (Ex.lss rfl rfl) rfl rfl rfl ?_
  refine Ops.nil ?_
  refine Run.seq ?_
  refine Run.cond rfl (fun hc => ?_) (fun hc => ?_)
  · have hl12 := lt_of_dec hc
    obtain ⟨a12, nxb12, ha12, hnxb12, hf⟩ := forL_in hf hl12
    unfold go_files_Disk_Restart.b1 at hf
    try dsimp only at hf
    refine Run.skip ?_
    refine Run.seq ?_
    refine Run.block ?_
    refine Run.seq ?_
    refine Run.region ?_
    obtain ⟨g309, p309, o309, cs309, hA309, ho309, hr309, f309⟩ := SlH.elem fv11_0.toH (atI_nat ha12)
    obtain ⟨A308, c308, rfl, f308⟩ := hr309
    refine Ops.ex (Ex.ixA hA309 ho309 (atI_nat ha12) rfl rfl rfl Try.underlying66 sz78) rfl rfl rfl ?_
    refine Ops.load rfl Try.underlying78 rfl ((f309.mono hst307.le) 0 _ rfl) rfl ?_
    refine Ops.ex (Ex.assign rfl) rfl rfl rfl ?_
    refine Ops.nil ?_
    refine Run.seq ?_
    refine Run.region ?_
    refine Ops.ex (Ex.move rfl) rfl rfl rfl ?_
    refine Ops.ex (Ex.len' rfl rfl rfl Try.underlying78) rfl rfl rfl ?_
    refine Ops.ex (Ex.move rfl) rfl rfl rfl ?_
    refine Ops.nil ?_
    refine Run.block ?_
    have hc310 := f308.cap
    have hm311 := Le.refl z304
    refine Run.sub (e' := [(0, .pointer (some ⟨g0, 0, none⟩)), (2, vi p2), (25, .slice A3 l10.length c3), (26, vi (l10.length : Int)), (27, vi (i12 : Int)), (31, .slice A308 a12.length c308), (32, vi (a12.length : Int)), (33, vi ((0 : Nat) : Int))]) (subB_spec ⟨rfl, rfl, rfl, rfl, rfl, rfl, rfl, rfl, trivial⟩) ?_
    refine Run.loop (fun mb310 => (fun e' w' => ∃ (i310 : Nat) (mp342 : Mp (Option Nat)) (Ha341 : List Res) (g342 : Nat) (E342 : Array MapEntry) (c342 : Nat) (z340 : Zp), mb310 = a12.length - i310 ∧ i310 ≤ a12.length ∧ forL (go_files_Disk_Restart.b2) (fun mp342 => nxb12 mp342) i310 (a12.drop i310) mp342 = some r ∧ e' = [(0, .pointer (some ⟨g0, 0, none⟩)), (2, vi p2), (25, .slice A3 l10.length c3), (26, vi (l10.length : Int)), (27, vi (i12 : Int)), (31, .slice A308 a12.length c308), (32, vi (a12.length : Int)), (33, vi (i310 : Int))] ∧ Le z304 z340 ∧ Le z0 z340 ∧ Le z11 z340 ∧ Ar1 z340 Γ1 ar1 Ha341 ∧ Mr (tA Γ1) pk1 z340 E342 c342 mp342 ∧ Ht w0 (frz z340 :: (ob g342 (.map E342 c342)) :: (blk g0 [.map (some gm1), .map (some g342), .slice A3 p0.wait_.length c3, vi p0.room_, vi p0.left_, vb p0.down_, vi p0.calls_] 68) :: (ob gm1 (.map E1 c1)) :: (Ha341 ++ X)) w')) a12.length ⟨0, mp306, Ha305, g306, E306, c306, z304, rfl, Nat.zero_le _, hf, rfl, hm311, hy307_0, hz307, hA305, f306, hst307⟩ ?_
    rintro _ e' w343 ⟨i310, mp342, Ha341, g342, E342, c342, z340, rfl, hi310, hf, rfl, hz343, hy343_0, hy343_1, hA341, f342, hst343⟩
    replace fv11_0 := fv11_0.mono hz343; replace f308 := f308.mono hz343; replace f11 := f11.mono hz343; replace f1 := f1.mono hz343
    refine Run.seq ?_
    refine Run.region ?_
    refine Ops.ex (Ex.lss rfl rfl) rfl rfl rfl ?_
    refine Ops.nil ?_
    refine Run.seq ?_
    refine Run.cond rfl (fun hc => ?_) (fun hc => ?_)
    · have hl310 := lt_of_dec hc
      obtain ⟨a310, nxb310, ha310, hnxb310, hf⟩ := forL_in hf hl310
      unfold go_files_Disk_Restart.b2 at hf
      try dsimp only at hf
      refine Run.skip ?_
      refine Run.seq ?_
      refine Run.block ?_
      refine Run.seq ?_
      refine Run.region ?_
      obtain ⟨g346, p346, o346, cs346, hA346, ho346, hr346, f346⟩ := SlH.elem f308.toH (atI_nat ha310)
      obtain ⟨A345, rfl, f345⟩ := hr346
      refine Ops.ex (Ex.ixA hA346 ho346 (atI_nat ha310) rfl rfl rfl Try.underlying78 sz75) rfl rfl rfl ?_
      refine Ops.loadAgg [vs a310.name_, .pointer A345] rfl Try.underlying75 rfl sz75 rfl (cells_of_zc rfl (f346.mono hst343.le)) rfl ?_
      refine Ops.allocF [vs [], .pointer none] hst343 zr75 rfl rfl (fun g347 w347 hst347 => ?_)
      refine Ops.store 1 [vs a310.name_, .pointer A345] hst347 rfl rfl rfl rfl sz75 rfl (by simp [Value.oneCell']) (by simp) (fun w348 hst348 => ?_)
      refine Ops.nil ?_
      have hm350 := Le.refl z340
      refine Run.drawH [([], fun w => ∃ ζ Y, Le z340 ζ ∧ Ht w0 (frz ζ :: (blk g347 [vs a310.name_, .pointer A345] 75) :: (blk g0 [.map (some gm1), .map (some g342), .slice A3 p0.wait_.length c3, vi p0.room_, vi p0.left_, vb p0.down_, vi p0.calls_] 68) :: (ob gm1 (.map E1 c1)) :: Y) w), ([5], fun w => ∃ ζ Y, Le z340 ζ ∧ Ht w0 (frz ζ :: (ob g342 (.map E342 c342)) :: Y) w)] (by kernel_rfl) hst348 (fun w349 hst349 => ?_)
      have hS0 := (⟨_, _, (Le.refl _), (St.up (St.up (St.up (St.up hst349 4 rfl) 4 rfl) 3 rfl) 3 rfl)⟩ : (fun w => ∃ ζ Y, Le z340 ζ ∧ Ht w0 (frz ζ :: (blk g347 [vs a310.name_, .pointer A345] 75) :: (blk g0 [.map (some gm1), .map (some g342), .slice A3 p0.wait_.length c3, vi p0.room_, vi p0.left_, vb p0.down_, vi p0.calls_] 68) :: (ob gm1 (.map E1 c1)) :: Y) w) _)
      have hS1 := (⟨_, _, (Le.refl _), (St.up (St.up hst349 2 rfl) 1 rfl)⟩ : (fun w => ∃ ζ Y, Le z340 ζ ∧ Ht w0 (frz ζ :: (ob g342 (.map E342 c342)) :: Y) w) _)
      refine Any.takeE 0 rfl rfl rfl rfl (by kernel_rfl) (fun _ _ _ _ _ h => h) ((Ex.move rfl).s) ?_
      refine Any.takeE 1 rfl rfl rfl rfl (by kernel_rfl) (fun _ _ _ _ _ h => h) ((Ex.nilCheck rfl).s) ?_
      refine Any.takeE 2 rfl rfl rfl rfl (by kernel_rfl) (fun _ _ _ _ _ h => h) ((Ex.fieldAddr rfl Try.underlying68 rfl sz65).s) ?_
      refine Any.take 0 3 rfl rfl rfl rfl rfl (by kernel_rfl) (fun _ _ _ _ _ h => h) (ExS.load rfl Try.underlying65 rfl (fun w hS => by obtain ⟨_, _, _, hs⟩ := hS; exact hs.cell (i := 2) rfl rfl)) hS0 ?_
      refine Any.take 0 4 rfl rfl rfl rfl rfl (by kernel_rfl) (fun _ _ _ _ _ h => h) (ExS.loadAgg [vs a310.name_, .pointer A345] rfl Try.underlying75 rfl sz75 rfl (fun w hS => by obtain ⟨_, _, _, hs⟩ := hS; exact hs.cells (i := 1) rfl 0 2)) hS0 ?_
      obtain ⟨y351, hy351, hf⟩ := bnd hf
      refine Any.one 5 (by kernel_rfl) rfl rfl (One.of_ops rfl ?_)
      refine Ops.call rfl rfl Try.func39 (by kernel_rfl) (by kernel_rfl) rfl (go_files_put.walk (Γ1 := Γ1) (p0 := mp342) (p1 := a310) (hst := (St.up (St.up (St.up (St.up (St.up hst349 4 rfl) 4 rfl) 3 rfl) 4 rfl) 4 rfl)) (f1 := f342) (f3 := f345) (hf := hy351)) ?_
      rintro _ w351 ⟨z351, E352, c352, rfl, hz351, f352, hst351⟩
      refine ⟨_, rfl, Ops.stop ?_⟩
      replace fv11_0 := fv11_0.mono hz351; replace f308 := f308.mono hz351; replace f346 := f346.mono hz351; replace f345 := f345.mono hz351; replace f11 := f11.mono hz351; replace f1 := f1.mono hz351; replace hA341 := hA341.mono hz351
      replace hy343_0 := hy343_0.trans hz351
      replace hy343_1 := hy343_1.trans hz351
      replace hz343 := hz343.trans hz351
      replace hm350 := hm350.trans hz351
      have hS0 := (⟨_, _, hm350, (St.up (St.up (St.up (St.up hst351 4 rfl) 4 rfl) 4 rfl) 3 rfl)⟩ : (fun w => ∃ ζ Y, Le z340 ζ ∧ Ht w0 (frz ζ :: (blk g347 [vs a310.name_, .pointer A345] 75) :: (blk g0 [.map (some gm1), .map (some g342), .slice A3 p0.wait_.length c3, vi p0.room_, vi p0.left_, vb p0.down_, vi p0.calls_] 68) :: (ob gm1 (.map E1 c1)) :: Y) w) _)
      refine ⟨⟨.inr (fun _ => hS0), .inl (by decide), trivial⟩, ?_⟩
      refine Any.done (by kernel_rfl) ?_
      refine Run.endBlk ?_
      refine Run.region ?_
      refine Ops.ex (Ex.add rfl rfl) rfl rfl rfl ?_
      refine Ops.ex (Ex.move rfl) rfl rfl rfl ?_
      refine Ops.nil ?_
      refine Run.re 33 rfl (congrArg vi (wr_succ' hl310 hc310)) ?_
      exact Run.sub (by exact subB_spec ⟨rfl, rfl, rfl, rfl, rfl, rfl, rfl, rfl, trivial⟩) (Run.stop ⟨a12.length - (i310 + 1), by omega, i310 + 1, y351, Ha341, g342, E352, c352, z351, rfl, by omega, (hnxb310 _).symm.trans hf, rfl, hz343, hy343_0, hy343_1, hA341, f352, (St.forget hst351 2)⟩)
    · replace hf := forL_out hf (nlt_of_dec hc)
      try dsimp only at hf
      refine Run.exit _ rfl ?_
      refine Run.endBlk ?_
      refine Run.region ?_
      refine Ops.ex (Ex.add rfl rfl) rfl rfl rfl ?_
      refine Ops.ex (Ex.move rfl) rfl rfl rfl ?_
      refine Ops.nil ?_
      refine Run.re 27 rfl (congrArg vi (wr_succ' hl12 hc12)) ?_
      exact Run.sub (by exact subB_spec ⟨rfl, rfl, rfl, rfl, rfl, trivial⟩) (Run.stop ⟨l10.length - (i12 + 1), by omega, i12 + 1, mp342, Ha341, g342, E342, c342, z340, rfl, by omega, (hnxb12 _).symm.trans hf, rfl, hy343_1, hy343_0, hA341, f342, hst343⟩)
  · replace hf := forL_out hf (nlt_of_dec hc)
    try dsimp only at hf
    refine Run.exit _ rfl ?_
    refine Run.seq ?_
    refine Run.seq ?_
    refine Run.region ?_
    refine Ops.ex (Ex.move rfl) rfl rfl rfl ?_
    refine Ops.ex (Ex.nilCheck rfl) rfl rfl rfl ?_
    refine Ops.ex (Ex.fieldAddr rfl Try.underlying68 rfl sz65) rfl rfl rfl ?_
    refine Ops.load rfl Try.underlying65 rfl (hst307.cell (i := 2) rfl rfl) rfl ?_
    refine Ops.mrangeO 1 f306 hst307 rfl rfl Try.underlying65 rfl (fun g353 w353 f353 hst353 => ?_)
    refine Ops.nil ?_
    refine Run.block ?_
    have hm355 := Le.refl z304
    refine Run.sub (e' := [(0, .pointer (some ⟨g0, 0, none⟩)), (2, vi p2), (49, .pointer (some ⟨g353, 0, none⟩))]) (subB_spec ⟨rfl, rfl, rfl, trivial⟩) ?_
    refine Run.loop (fun mb354 => (fun e' w' => ∃ (mp354 : Mp (Option Nat)) (ar419 : List filesfile) (Ha419 : List Res) (q354 : Array Nat) (z418 : Zp), mb354 = mp354.length ∧ forN (go_files_Disk_Restart.b3 p2) (fun ar419 => some ((⟨mp306, mp306, [], p0.room_, (-1), false, p0.calls_⟩ : filesDisk), ar419)) mp354.length mp354 ar419 = some r ∧ e' = [(0, .pointer (some ⟨g0, 0, none⟩)), (2, vi p2), (49, .pointer (some ⟨g353, 0, none⟩))] ∧ Le z304 z418 ∧ Le z0 z418 ∧ Le z11 z418 ∧ Ar1 z418 Γ1 ar419 Ha419 ∧ Mj (tA Γ1) pk1 z418 E306 c306 q354 mp354 ∧ Ht w0 (frz z418 :: (ob g353 (.mapIter (some g306) c306 q354 c306)) :: (ob g306 (.map E306 c306)) :: (blk g0 [.map (some gm1), .map (some g306), .slice A3 p0.wait_.length c3, vi p0.room_, vi p0.left_, vb p0.down_, vi p0.calls_] 68) :: (ob gm1 (.map E1 c1)) :: (Ha419 ++ X)) w')) mp306.length ⟨mp306, ar1, Ha305, #[], z304, rfl, hf, rfl, hm355, hy307_0, hz307, hA305, f353, hst353⟩ ?_
    rintro _ e' w420 ⟨mp354, ar419, Ha419, q354, z418, rfl, hf, rfl, hz420, hy420_0, hy420_1, hA419, fM354, hst420⟩
    replace f306 := f306.mono hz420; replace f11 := f11.mono hz420; replace f1 := f1.mono hz420
    refine Run.seq ?_
    refine Run.region ?_
    have hsr354 := Mj.srt fM354
    refine Ops.mnextO 1 2 hst420 rfl rfl fM354 rfl rfl (fun hm0 => ?_) (fun a354 cs421 q421 w421 ham hR421 hC421 hM421 hst421 => ?_)
    · replace hf := forN_nil hf hm0
      try dsimp only at hf
      refine Ops.ex (Ex.extract rfl rfl) rfl rfl rfl ?_
      refine Ops.nil ?_
      refine Run.seq ?_
      refine Run.condF rfl rfl ?_
      refine Run.exit _ rfl ?_
      refine Run.region ?_
      refine Ops.ex (Ex.move rfl) rfl rfl rfl ?_
      refine Ops.ex (Ex.move rfl) rfl rfl rfl ?_
      refine Ops.ex (Ex.move rfl) rfl rfl rfl ?_
      refine Ops.ex (Ex.move rfl) rfl rfl rfl ?_
      refine Ops.ex (Ex.move rfl) rfl rfl rfl ?_
      refine Ops.ex (Ex.nilCheck rfl) rfl rfl rfl ?_
      refine Ops.ex (Ex.fieldAddr rfl Try.underlying68 rfl sz65) rfl rfl rfl ?_
      refine Ops.load rfl Try.underlying65 rfl (hst420.cell (i := 3) rfl rfl) rfl ?_
      have f422 := f306
      refine Ops.call rfl rfl Try.func38 (by kernel_rfl) (by kernel_rfl) rfl (FM.cloneM.walk 2 hst420 rfl) ?_
      rintro _ w422 ⟨g422, rfl, hst422⟩
      refine ⟨_, rfl, ?_⟩
      refine Ops.ex (Ex.nilCheck rfl) rfl rfl rfl ?_
      refine Ops.ex (Ex.fieldAddr rfl Try.underlying68 rfl sz65) rfl rfl rfl ?_
      refine Ops.store 4 [.map (some g422)] hst422 rfl rfl rfl rfl sz65 rfl (by simp [Value.oneCell']) (by simp) (fun w423 hst423 => ?_)
      refine Ops.ex (Ex.nilCheck rfl) rfl rfl rfl ?_
      refine Ops.ex (Ex.fieldAddr rfl Try.underlying68 rfl sz66) rfl rfl rfl ?_
      refine Ops.store 4 [.slice none 0 0] hst423 rfl rfl rfl rfl sz66 rfl (by simp [Value.oneCell']) (by simp) (fun w424 hst424 => ?_)
      refine Ops.ex (Ex.nilCheck rfl) rfl rfl rfl ?_
      refine Ops.ex (Ex.fieldAddr rfl Try.underlying68 rfl sz4) rfl rfl rfl ?_
      refine Ops.store 4 [vb false] hst424 rfl rfl rfl rfl sz4 rfl (by simp [Value.oneCell']) (by simp) (fun w425 hst425 => ?_)
      refine Ops.ex (Ex.nilCheck rfl) rfl rfl rfl ?_
      refine Ops.ex (Ex.fieldAddr rfl Try.underlying68 rfl sz3) rfl rfl rfl ?_
      refine Ops.store 4 [vi (-1)] hst425 rfl rfl rfl rfl sz3 rfl (by simp [Value.oneCell']) (by simp) (fun w426 hst426 => ?_)
      refine Ops.nil ?_
      have hst427 := St.row0 hst426 78 1
      obtain rfl := Option.some.inj hf
      exact Run.doneV [] rfl trivial ⟨z418, g422, E306, c306, g306, E306, c306, none, 0, [], Ha419, rfl, hy420_0, f422, f306, (Cs.nil _ _), hA419, (St.up (St.up (St.up (St.up (St.up (St.forget (St.forget hst427 6) 3) 1 rfl) 3 rfl) 3 rfl) 4 rfl) 4 rfl)⟩
    · obtain ⟨A429, rfl, f429⟩ := hR421
      obtain ⟨nxb354, hnxb354, hf⟩ := forN_cons hf hsr354 ham
      unfold go_files_Disk_Restart.b3 at hf
      try dsimp only at hf
      replace hst421 : Ht w0 (frz z418 :: (ob g353 (.mapIter (some g306) c306 q421 c306)) :: (ob g306 (.map E306 c306)) :: (blk g0 [.map (some gm1), .map (some g306), .slice A3 p0.wait_.length c3, vi p0.room_, vi p0.left_, vb p0.down_, vi p0.calls_] 68) :: (ob gm1 (.map E1 c1)) :: (Ha419 ++ X)) _ := hst421
      refine Ops.ex (Ex.extract rfl rfl) rfl rfl rfl ?_
      refine Ops.nil ?_
      refine Run.seq ?_
      refine Run.condT rfl rfl ?_
      refine Run.skip ?_
      refine Run.block ?_
      refine Run.seq ?_
      refine Run.region ?_
      refine Ops.mentryO (i := 1) (j := 2) hst421 rfl rfl hC421 rfl rfl ?_
      refine Ops.ex (Ex.extract rfl rfl) rfl rfl rfl ?_
      refine Ops.ex (Ex.assign rfl) rfl rfl rfl ?_
      refine Ops.nil ?_
      refine Run.seq ?_
      have hm431 := Le.refl z418
      obtain ⟨i430, hi430, hf⟩ := bnd hf
      obtain ⟨y430, hy430, hf⟩ := bnd hf
      obtain ⟨g430, hA430, hg430⟩ := PtA.some f429 hi430
      obtain ⟨rs430, Hr430, hO430, hP430, hcl430, hba430⟩ := ArL.open O1.mono hA419 hg430 hy430
      obtain ⟨A432, c432, _, d432, f432, rfl, rfl⟩ := hO430
      have hst430 : Ht w0 (frz z418 :: (ob g353 (.mapIter (some g306) c306 q421 c306)) :: (ob g306 (.map E306 c306)) :: (blk g0 [.map (some gm1), .map (some g306), .slice A3 p0.wait_.length c3, vi p0.room_, vi p0.left_, vb p0.down_, vi p0.calls_] 68) :: (ob gm1 (.map E1 c1)) :: (blk g430 [.slice A432 y430.b_.length c432, vi y430.safe_] 73) :: (orow 5 1 (.slice A432 y430.b_.length c432) y430.b_.length d432) :: (Hr430 ++ X)) _ := St.tailP (B := [ob g353 (.mapIter (some g306) c306 q421 c306), ob g306 (.map E306 c306), blk g0 [.map (some gm1), .map (some g306), .slice A3 p0.wait_.length c3, vi p0.room_, vi p0.left_, vb p0.down_, vi p0.calls_] 68, ob gm1 (.map E1 c1)]) hst421 hP430
      refine Run.drawH [([], fun w => ∃ ζ Y, Le z418 ζ ∧ Ht w0 (frz ζ :: (ob g353 (.mapIter (some g306) c306 q421 c306)) :: (ob g306 (.map E306 c306)) :: (blk g0 [.map (some gm1), .map (some g306), .slice A3 p0.wait_.length c3, vi p0.room_, vi p0.left_, vb p0.down_, vi p0.calls_] 68) :: (ob gm1 (.map E1 c1)) :: Y) w), ([25, 28], fun w => ∃ ζ Y, Le z418 ζ ∧ Ht w0 (frz ζ :: (orow 5 1 (.slice A432 y430.b_.length c432) y430.b_.length d432) :: Y) w), ([28], fun w => ∃ ζ Y, Le z418 ζ ∧ Ht w0 (frz ζ :: (blk g430 [.slice A432 y430.b_.length c432, vi y430.safe_] 73) :: Y) w)] (by kernel_rfl) hst430 (fun w434 hst434 => ?_)
      have hS0 := (⟨_, _, (Le.refl _), (St.up (St.up (St.up (St.up (St.up hst434 4 rfl) 4 rfl) 4 rfl) 4 rfl) 4 rfl)⟩ : (fun w => ∃ ζ Y, Le z418 ζ ∧ Ht w0 (frz ζ :: (ob g353 (.mapIter (some g306) c306 q421 c306)) :: (ob g306 (.map E306 c306)) :: (blk g0 [.map (some gm1), .map (some g306), .slice A3 p0.wait_.length c3, vi p0.room_, vi p0.left_, vb p0.down_, vi p0.calls_] 68) :: (ob gm1 (.map E1 c1)) :: Y) w) _)
      have hS1 := (⟨_, _, (Le.refl _), (St.up (St.up hst434 6 rfl) 1 rfl)⟩ : (fun w => ∃ ζ Y, Le z418 ζ ∧ Ht w0 (frz ζ :: (orow 5 1 (.slice A432 y430.b_.length c432) y430.b_.length d432) :: Y) w) _)
      have hS2 := (⟨_, _, (Le.refl _), (St.up (St.up hst434 5 rfl) 1 rfl)⟩ : (fun w => ∃ ζ Y, Le z418 ζ ∧ Ht w0 (frz ζ :: (blk g430 [.slice A432 y430.b_.length c432, vi y430.safe_] 73) :: Y) w) _)
      refine Any.takeE 0 rfl rfl rfl rfl (by kernel_rfl) (fun _ _ _ _ _ h => h) ((Ex.move rfl).s) ?_
      refine Any.takeE 1 rfl rfl rfl rfl (by kernel_rfl) (fun _ _ _ _ _ h => h) ((Ex.move rfl).s) ?_
      refine Any.takeE 2 rfl rfl rfl rfl (by kernel_rfl) (fun _ _ _ _ _ h => h) ((Ex.nilP hA430 rfl).s) ?_
      refine Any.takeE 3 rfl rfl rfl rfl (by kernel_rfl) (fun _ _ _ _ _ h => h) ((Ex.fieldAddr rfl Try.underlying73 rfl sz22).s) ?_
      refine Any.take 2 4 rfl rfl rfl rfl rfl (by kernel_rfl) (fun _ _ _ _ _ h => h) (ExS.load rfl Try.underlying22 rfl (fun w hS => by obtain ⟨_, _, _, hs⟩ := hS; exact hs.cell (i := 1) rfl rfl)) hS2 ?_
      refine Any.takeE 5 rfl rfl rfl rfl (by kernel_rfl) (fun _ _ _ _ _ h => h) ((Ex.move rfl).s) ?_
      refine Any.takeE 6 rfl rfl rfl rfl (by kernel_rfl) (fun _ _ _ _ _ h => h) ((Ex.nilP hA430 rfl).s) ?_
      refine Any.takeE 7 rfl rfl rfl rfl (by kernel_rfl) (fun _ _ _ _ _ h => h) ((Ex.fieldAddr rfl Try.underlying73 rfl sz22).s) ?_
      refine Any.take 2 8 rfl rfl rfl rfl rfl (by kernel_rfl) (fun _ _ _ _ _ h => h) (ExS.load rfl Try.underlying22 rfl (fun w hS => by obtain ⟨_, _, _, hs⟩ := hS; exact hs.cell (i := 1) rfl rfl)) hS2 ?_
      refine Any.takeE 9 rfl rfl rfl rfl (by kernel_rfl) (fun _ _ _ _ _ h => h) ((Ex.len' rfl rfl rfl Try.underlying22).s) ?_
      refine Any.takeE 10 rfl rfl rfl rfl (by kernel_rfl) (fun _ _ _ _ _ h => h) ((Ex.move rfl).s) ?_
      refine Any.takeE 11 rfl rfl rfl rfl (by kernel_rfl) (fun _ _ _ _ _ h => h) ((Ex.nilP hA430 rfl).s) ?_
      refine Any.takeE 12 rfl rfl rfl rfl (by kernel_rfl) (fun _ _ _ _ _ h => h) ((Ex.fieldAddr rfl Try.underlying73 rfl sz3).s) ?_
      refine Any.take 2 13 rfl rfl rfl rfl rfl (by kernel_rfl) (fun _ _ _ _ _ h => h) (ExS.load rfl Try.underlying3 rfl (fun w hS => by obtain ⟨_, _, _, hs⟩ := hS; exact hs.cell (i := 1) rfl rfl)) hS2 ?_
      refine Any.takeE 14 rfl rfl rfl rfl (by kernel_rfl) (fun _ _ _ _ _ h => h) ((Ex.move rfl).s) ?_
      refine Any.takeE 15 rfl rfl rfl rfl (by kernel_rfl) (fun _ _ _ _ _ h => h) ((Ex.move rfl).s) ?_
      refine Any.takeE 16 rfl rfl rfl rfl (by kernel_rfl) (fun _ _ _ _ _ h => h) ((Ex.nilP hA430 rfl).s) ?_
      refine Any.takeE 17 rfl rfl rfl rfl (by kernel_rfl) (fun _ _ _ _ _ h => h) ((Ex.fieldAddr rfl Try.underlying73 rfl sz22).s) ?_
      refine Any.take 2 18 rfl rfl rfl rfl rfl (by kernel_rfl) (fun _ _ _ _ _ h => h) (ExS.load rfl Try.underlying22 rfl (fun w hS => by obtain ⟨_, _, _, hs⟩ := hS; exact hs.cell (i := 1) rfl rfl)) hS2 ?_
      refine Any.takeE 19 rfl rfl rfl rfl (by kernel_rfl) (fun _ _ _ _ _ h => h) ((Ex.len' rfl rfl rfl Try.underlying22).s) ?_
      refine Any.takeE 20 rfl rfl rfl rfl (by kernel_rfl) (fun _ _ _ _ _ h => h) ((Ex.min2 rfl rfl rfl).s) ?_
      refine Any.takeE 21 rfl rfl rfl rfl (by kernel_rfl) (fun _ _ _ _ _ h => h) ((Ex.max2 rfl rfl rfl).s) ?_
      refine Any.takeE 22 rfl rfl rfl rfl (by kernel_rfl) (fun _ _ _ _ _ h => h) ((Ex.add rfl rfl).s) ?_
      refine Any.takeE 23 rfl rfl rfl rfl (by kernel_rfl) (fun _ _ _ _ _ h => h) ((Ex.min2 rfl rfl rfl).s) ?_
      obtain ⟨l435, hy435, hf⟩ := bnd hf
      obtain ⟨hl435, f435⟩ := own_pre f432 rfl (hst434.get (i := 6) rfl) hy435
      refine Any.takeE 24 rfl rfl rfl rfl (by kernel_rfl) (fun _ _ _ _ _ h => h) ((Ex.preA hl435 hy435 rfl rfl Try.underlying22 sz5 rfl rfl).s) ?_
      obtain ⟨fC437, hC437⟩ := St.cutRow 6 hst434 rfl f432 rfl hy435 (Nat.le_trans (cut_le hy435 rfl) hl435) (Nat.le_refl _)
      have hst437 : Ht w0 (frz z418 :: (ob g353 (.mapIter (some g306) c306 q421 c306)) :: (ob g306 (.map E306 c306)) :: (blk g0 [.map (some gm1), .map (some g306), .slice A3 p0.wait_.length c3, vi p0.room_, vi p0.left_, vb p0.down_, vi p0.calls_] 68) :: (ob gm1 (.map E1 c1)) :: (blk g430 [.slice A432 y430.b_.length c432, vi y430.safe_] 73) :: (orow 5 1 (.slice A432 l435.length c432) l435.length (List.take (l435.length * 1) d432)) :: (Hr430 ++ X)) _ := hC437
      obtain ⟨y436, hy436, hf⟩ := bnd hf
      refine Any.one 25 (by kernel_rfl) rfl rfl (One.of_ops rfl ?_)
      refine Ops.call rfl rfl Try.func40 (by kernel_rfl) (by kernel_rfl) rfl (go_slices_Clip_byte_byte.walk (p0 := l435) (hst := (St.up (St.up (St.up (St.up (St.up (St.up (St.up hst437 5 rfl) 5 rfl) 5 rfl) 5 rfl) 5 rfl) 6 rfl) 6 rfl)) (f1 := fC437) (hf := hy436)) ?_
      rintro _ w436 ⟨z436, A439, c439, d439, rfl, hz436, f439, hst436⟩
      refine ⟨_, rfl, Ops.stop ?_⟩
      replace hM421 := hM421.mono hz436; replace f429 := f429.mono hz436; replace f306 := f306.mono hz436; replace f11 := f11.mono hz436; replace f1 := f1.mono hz436
      replace hy420_0 := hy420_0.trans hz436
      replace hy420_1 := hy420_1.trans hz436
      replace hz420 := hz420.trans hz436
      replace hm431 := hm431.trans hz436
      have hS0 := (⟨_, _, hm431, (St.up (St.up (St.up (St.up (St.up hst436 5 rfl) 5 rfl) 5 rfl) 5 rfl) 4 rfl)⟩ : (fun w => ∃ ζ Y, Le z418 ζ ∧ Ht w0 (frz ζ :: (ob g353 (.mapIter (some g306) c306 q421 c306)) :: (ob g306 (.map E306 c306)) :: (blk g0 [.map (some gm1), .map (some g306), .slice A3 p0.wait_.length c3, vi p0.room_, vi p0.left_, vb p0.down_, vi p0.calls_] 68) :: (ob gm1 (.map E1 c1)) :: Y) w) _)
      have hS2 := (⟨_, _, hm431, (St.up (St.up hst436 6 rfl) 1 rfl)⟩ : (fun w => ∃ ζ Y, Le z418 ζ ∧ Ht w0 (frz ζ :: (blk g430 [.slice A432 y430.b_.length c432, vi y430.safe_] 73) :: Y) w) _)
      refine ⟨⟨.inr (fun _ => hS0), .inl (by decide), .inr (fun _ => hS2), trivial⟩, ?_⟩
      refine Any.takeE 26 rfl rfl rfl rfl (by kernel_rfl) (fun _ _ _ _ _ h => h) ((Ex.nilP hA430 rfl).s) ?_
      refine Any.takeE 27 rfl rfl rfl rfl (by kernel_rfl) (fun _ _ _ _ _ h => h) ((Ex.fieldAddr rfl Try.underlying73 rfl sz22).s) ?_
      refine Any.one 28 (by kernel_rfl) rfl rfl (One.of_ops rfl ?_)
      refine Ops.store 6 [.slice A439 y436.length c439] hst436 rfl rfl rfl rfl sz22 rfl (by simp [Value.oneCell']) (by simp) (fun w440 hst440 => Ops.stop ?_)
      have hS0 := (⟨_, _, hm431, (St.up (St.up (St.up (St.up (St.up hst440 5 rfl) 5 rfl) 5 rfl) 5 rfl) 4 rfl)⟩ : (fun w => ∃ ζ Y, Le z418 ζ ∧ Ht w0 (frz ζ :: (ob g353 (.mapIter (some g306) c306 q421 c306)) :: (ob g306 (.map E306 c306)) :: (blk g0 [.map (some gm1), .map (some g306), .slice A3 p0.wait_.length c3, vi p0.room_, vi p0.left_, vb p0.down_, vi p0.calls_] 68) :: (ob gm1 (.map E1 c1)) :: Y) w) _)
      refine ⟨⟨.inr (fun _ => hS0), .inl (by decide), .inl (by decide), trivial⟩, ?_⟩
      refine Any.done (by kernel_rfl) ?_
      have hA441 : Ar1 z436 Γ1 (ar419.set i430 (⟨y436, y430.safe_⟩ : filesfile)) ([blk g430 [.slice A439 y436.length c439, vi y430.safe_] 73, orow 5 1 (.slice A439 y436.length c439) y436.length d439] ++ Hr430) := hcl430 _ hm431 _ _ ⟨_, _, _, _, f439, rfl, rfl⟩
      obtain ⟨ar441, hy441, hf⟩ := bnd hf
      rw [Option.some.inj hy441] at hA441
      have hst441 : Ht w0 (frz z436 :: (ob g353 (.mapIter (some g306) c306 q421 c306)) :: (ob g306 (.map E306 c306)) :: (blk g0 [.map (some gm1), .map (some g306), .slice A3 p0.wait_.length c3, vi p0.room_, vi p0.left_, vb p0.down_, vi p0.calls_] 68) :: (ob gm1 (.map E1 c1)) :: (([blk g430 [.slice A439 y436.length c439, vi y430.safe_] 73, orow 5 1 (.slice A439 y436.length c439) y436.length d439] ++ Hr430) ++ X)) _ := (St.up (St.up (St.up (St.up (St.up (St.up (St.up hst440 1 rfl) 6 rfl) 6 rfl) 6 rfl) 6 rfl) 6 rfl) 6 rfl)
      refine Run.region ?_
      refine Ops.ex (Ex.move rfl) rfl rfl rfl ?_
      refine Ops.ex (Ex.move rfl) rfl rfl rfl ?_
      have hm443 := Le.refl z436
      obtain ⟨i442, hi442, hf⟩ := bnd hf
      obtain ⟨y442, hy442, hf⟩ := bnd hf
      obtain ⟨g442, hA442, hg442⟩ := PtA.some f429 hi442
      obtain ⟨rs442, Hr442, hO442, hP442, hcl442, hba442⟩ := ArL.open O1.mono hA441 hg442 hy442
      obtain ⟨A444, c444, _, d444, f444, rfl, rfl⟩ := hO442
      have hst442 : Ht w0 (frz z436 :: (ob g353 (.mapIter (some g306) c306 q421 c306)) :: (ob g306 (.map E306 c306)) :: (blk g0 [.map (some gm1), .map (some g306), .slice A3 p0.wait_.length c3, vi p0.room_, vi p0.left_, vb p0.down_, vi p0.calls_] 68) :: (ob gm1 (.map E1 c1)) :: (blk g442 [.slice A444 y442.b_.length c444, vi y442.safe_] 73) :: (orow 5 1 (.slice A444 y442.b_.length c444) y442.b_.length d444) :: (Hr442 ++ X)) _ := St.tailP (B := [ob g353 (.mapIter (some g306) c306 q421 c306), ob g306 (.map E306 c306), blk g0 [.map (some gm1), .map (some g306), .slice A3 p0.wait_.length c3, vi p0.room_, vi p0.left_, vb p0.down_, vi p0.calls_] 68, ob gm1 (.map E1 c1)]) hst441 hP442
      refine Ops.ex (Ex.nilP hA442 rfl) rfl rfl rfl ?_
      refine Ops.ex (Ex.fieldAddr rfl Try.underlying73 rfl sz22) rfl rfl rfl ?_
      refine Ops.load rfl Try.underlying22 rfl (hst442.cell (i := 5) rfl rfl) rfl ?_
      refine Ops.ex (Ex.len' rfl rfl rfl Try.underlying22) rfl rfl rfl ?_
      refine Ops.ex (Ex.nilP hA442 rfl) rfl rfl rfl ?_
      refine Ops.ex (Ex.fieldAddr rfl Try.underlying73 rfl sz3) rfl rfl rfl ?_
      refine Ops.store 5 [vi (y442.b_.length : Int)] hst442 rfl rfl rfl rfl sz3 rfl (by simp [Value.oneCell']) (by simp) (fun w446 hst446 => ?_)
      refine Ops.nil ?_
      have hA447 : Ar1 z436 Γ1 (ar441.set i442 (⟨y442.b_, (y442.b_.length : Int)⟩ : filesfile)) ([blk g442 [.slice A444 y442.b_.length c444, vi (y442.b_.length : Int)] 73, orow 5 1 (.slice A444 y442.b_.length c444) y442.b_.length d444] ++ Hr442) := hcl442 _ hm443 _ _ ⟨_, _, _, _, f444, rfl, rfl⟩
      obtain ⟨ar447, hy447, hf⟩ := bnd hf
      rw [Option.some.inj hy447] at hA447
      have hst447 : Ht w0 (frz z436 :: (ob g353 (.mapIter (some g306) c306 q421 c306)) :: (ob g306 (.map E306 c306)) :: (blk g0 [.map (some gm1), .map (some g306), .slice A3 p0.wait_.length c3, vi p0.room_, vi p0.left_, vb p0.down_, vi p0.calls_] 68) :: (ob gm1 (.map E1 c1)) :: (([blk g442 [.slice A444 y442.b_.length c444, vi (y442.b_.length : Int)] 73, orow 5 1 (.slice A444 y442.b_.length c444) y442.b_.length d444] ++ Hr442) ++ X)) _ := hst446
      refine Run.endBlk ?_
      exact Run.sub (by exact subB_spec ⟨rfl, rfl, rfl, trivial⟩) (Run.stop ⟨(mdel mp354 a354.1).length, (by have := mdel_len hsr354 ham; omega), (mdel mp354 a354.1), ar447, ([blk g442 [.slice A444 y442.b_.length c444, vi (y442.b_.length : Int)] 73, orow 5 1 (.slice A444 y442.b_.length c444) y442.b_.length d444] ++ Hr442), q421, z436, rfl, (hnxb354 _).symm.trans hf, rfl, hz420, hy420_0, hy420_1, hA447, hM421, hst447⟩)
def go_files_Disk_Flip (p0 : filesDisk) (p1 : Str) (p2 : Int) (p3 : UInt8) (ar1 : List filesfile) : Option (Bool × List filesfile) :=
  if (mget p0.now_ p1).isSome then (if p2 < 0 then (some (false, ar1)) else ((((mget p0.now_ p1).getD none)).bind fun i13 => (ar1[i13]?).bind fun y13 => if (y13.b_.length : Int) ≤ p2 then (some (false, ar1)) else ((((mget p0.now_ p1).getD none)).bind fun i17 => (ar1[i17]?).bind fun y17 => (go_slices_Clone_byte_byte y17.b_).bind fun y20 => (some (ar1.set i17 (⟨y20.1, y17.safe_⟩ : filesfile))).bind fun ar24 => (((mget p0.now_ p1).getD none)).bind fun i25 => (ar24[i25]?).bind fun y25 => (atI y25.b_ p2).bind fun y29 => (putI y25.b_ p2 (y29 ^^^ p3)).bind fun l34 => (some (ar24.set i25 (⟨l34, y25.safe_⟩ : filesfile))).bind fun ar35 => some (true, ar35)))) else (some (false, ar1))
set_option maxRecDepth 100000 in
set_option maxHeartbeats 4000000 in
theorem go_files_Disk_Flip.walk {w0 w : World} {Γ1 : List Nat} {X : List Res} {z0 : Zp} {p0 : filesDisk} {g0 : Nat} {gm1 : Nat} {E1 : Array MapEntry} {c1 : Nat} {gm2 : Nat} {E2 : Array MapEntry} {c2 : Nat} {A3 : Option Addr} {c3 : Nat} {d3 : List Value} {p1 : Str} {p2 : Int} {p3 : UInt8} {ar1 : List filesfile} {Ha1 : List Res} {r : Bool × List filesfile} (hst : Ht w0 (frz z0 :: (blk g0 [.map (some gm1), .map (some gm2), .slice A3 p0.wait_.length c3, vi p0.room_, vi p0.left_, vb p0.down_, vi p0.calls_] 68) :: (ob gm1 (.map E1 c1)) :: (ob gm2 (.map E2 c2)) :: (orow 78 1 (.slice A3 p0.wait_.length c3) p0.wait_.length d3) :: (Ha1 ++ X)) w) (f1 : Mr (tA Γ1) pk1 z0 E1 c1 p0.now_) (f2 : Mr (tA Γ1) pk1 z0 E2 c2 p0.safe_) (f3 : Cs (tSl (tfileschange Γ1)) z0 d3 p0.wait_) (hA1 : Ar1 z0 Γ1 ar1 Ha1) (hf : go_files_Disk_Flip p0 p1 p2 p3 ar1 = some r) :
    Calls Try.prog 15 #[.pointer (some ⟨g0, 0, none⟩), vs p1, vi p2, vu8 p3] w fun e w' => ∃ (z' : Zp) (Ha9002 : List Res), e = .returned (vb r.1) ∧ Le z0 z' ∧ Ar1 z' Γ1 r.2 Ha9002 ∧ Ht w0 (frz z' :: (blk g0 [.map (some gm1), .map (some gm2), .slice A3 p0.wait_.length c3, vi p0.room_, vi p0.left_, vb p0.down_, vi p0.calls_] 68) :: (ob gm1 (.map E1 c1)) :: (ob gm2 (.map E2 c2)) :: (orow 78 1 (.slice A3 p0.wait_.length c3) p0.wait_.length d3) :: (Ha9002 ++ X)) w' := by
  refine calls_np Try.func15 rfl rfl ?_
  have hle0 := Le.refl z0
  unfold go_files_Disk_Flip at hf
  have hGi1 := List.prefix_rfl (l := Γ1)
  refine Run.seq ?_
  refine Run.region ?_
  refine Ops.ex (Ex.assign rfl) rfl rfl rfl ?_
  refine Ops.nil ?_
  refine Run.seq ?_
  refine Run.region ?_
  refine Ops.ex (Ex.move rfl) rfl rfl rfl ?_
  refine Ops.ex (Ex.nilCheck rfl) rfl rfl rfl ?_
  refine Ops.ex (Ex.fieldAddr rfl Try.underlying68 rfl sz65) rfl rfl rfl ?_
  refine Ops.load rfl Try.underlying65 rfl (hst.cell (i := 1) rfl rfl) rfl ?_
  refine Ops.ex (Ex.move rfl) rfl rfl rfl ?_
  refine Ops.mlook (zcs := [.pointer none]) (s := p1) none (Mr.own f1 hst (i := 2) rfl) rfl rfl Try.underlying65 Try.underlying9 zr69 ⟨_, rfl, (PtA.nil _)⟩ rfl (fun cs11 hR11 => ?_)
  obtain ⟨A12, rfl, f12⟩ := hR11
  refine Ops.ex (Ex.move rfl) rfl rfl rfl ?_
  refine Ops.ex (Ex.extract rfl rfl) rfl rfl rfl ?_
  refine Ops.ex (Ex.extract rfl rfl) rfl rfl rfl ?_
  refine Ops.ex (Ex.assign rfl) rfl rfl rfl ?_
  refine Ops.ex (Ex.assign rfl) rfl rfl rfl ?_
  refine Ops.nil ?_
  refine Run.seq ?_
  refine Run.seq ?_
  refine Run.region ?_
  refine Ops.ex (Ex.move rfl) rfl rfl rfl ?_
  refine Ops.ex (Ex.not rfl) rfl rfl rfl ?_
  refine Ops.ex (Ex.move rfl) rfl rfl rfl ?_
  refine Ops.case 22 rfl (fun hc => ?_) (fun hc => ?_)
  · replace hf := ifFb (bn_T hc) hf
    refine Ops.off rfl rfl ?_
    refine Ops.off rfl rfl ?_
    refine Ops.ex (Ex.pickT rfl rfl) rfl rfl rfl ?_
    refine Ops.ex (Ex.move rfl) rfl rfl rfl ?_
    refine Ops.off rfl rfl ?_
    refine Ops.off rfl rfl ?_
    refine Ops.off rfl rfl ?_
    refine Ops.off rfl rfl ?_
    refine Ops.off rfl rfl ?_
    refine Ops.off rfl rfl ?_
    refine Ops.off rfl rfl ?_
    refine Ops.ex (Ex.pickT rfl rfl) rfl rfl rfl ?_
    refine Ops.nil ?_
    refine Run.condT rfl rfl ?_
    refine Run.seq ?_
    refine Run.region ?_
    refine Ops.ex (Ex.assign rfl) rfl rfl rfl ?_
    refine Ops.nil ?_
    obtain rfl := Option.some.inj hf
    exact Run.retV [vb false] rfl ⟨rfl, trivial⟩ ⟨z0, Ha1, rfl, hle0, hA1, hst⟩
  · replace hf := ifTb (bn_F hc) hf
    refine Ops.on rfl ?_
    refine Ops.ex (Ex.move rfl) rfl rfl rfl ?_
    refine Ops.on rfl ?_
    refine Ops.ex (Ex.lss rfl rfl) rfl rfl rfl ?_
    refine Ops.ex (Ex.pickF rfl rfl) rfl rfl rfl ?_
    refine Ops.ex (Ex.move rfl) rfl rfl rfl ?_
    refine Ops.case 26 rfl (fun hc => ?_) (fun hc => ?_)
    · replace hf := ifT (dec_T hc) hf
      refine Ops.off rfl rfl ?_
      refine Ops.off rfl rfl ?_
      refine Ops.off rfl rfl ?_
      refine Ops.off rfl rfl ?_
      refine Ops.off rfl rfl ?_
      refine Ops.off rfl rfl ?_
      refine Ops.off rfl rfl ?_
      refine Ops.ex (Ex.pickT rfl rfl) rfl rfl rfl ?_
      refine Ops.nil ?_
      refine Run.condT rfl rfl ?_
      refine Run.seq ?_
      refine Run.region ?_
      refine Ops.ex (Ex.assign rfl) rfl rfl rfl ?_
      refine Ops.nil ?_
      obtain rfl := Option.some.inj hf
      exact Run.retV [vb false] rfl ⟨rfl, trivial⟩ ⟨z0, Ha1, rfl, hle0, hA1, hst⟩
    · replace hf := ifF (dec_F hc) hf
      refine Ops.on rfl ?_
      refine Ops.ex (Ex.move rfl) rfl rfl rfl ?_
      refine Ops.on rfl ?_
      refine Ops.ex (Ex.move rfl) rfl rfl rfl ?_
      refine Ops.on rfl ?_
      obtain ⟨i13, hi13, hf⟩ := bnd hf
      obtain ⟨y13, hy13, hf⟩ := bnd hf
      obtain ⟨g13, hA13, hg13⟩ := PtA.some f12 hi13
      obtain ⟨rs13, Hr13, hO13, hP13, hcl13, hba13⟩ := ArL.open O1.mono hA1 hg13 hy13
      obtain ⟨A14, c14, _, d14, f14, rfl, rfl⟩ := hO13
      have hst13 : Ht w0 (frz z0 :: (blk g0 [.map (some gm1), .map (some gm2), .slice A3 p0.wait_.length c3, vi p0.room_, vi p0.left_, vb p0.down_, vi p0.calls_] 68) :: (ob gm1 (.map E1 c1)) :: (ob gm2 (.map E2 c2)) :: (orow 78 1 (.slice A3 p0.wait_.length c3) p0.wait_.length d3) :: (blk g13 [.slice A14 y13.b_.length c14, vi y13.safe_] 73) :: (orow 5 1 (.slice A14 y13.b_.length c14) y13.b_.length d14) :: (Hr13 ++ X)) _ := St.tailP (B := [blk g0 [.map (some gm1), .map (some gm2), .slice A3 p0.wait_.length c3, vi p0.room_, vi p0.left_, vb p0.down_, vi p0.calls_] 68, ob gm1 (.map E1 c1), ob gm2 (.map E2 c2), orow 78 1 (.slice A3 p0.wait_.length c3) p0.wait_.length d3]) hst hP13
      refine Ops.ex (Ex.nilP hA13 rfl) rfl rfl rfl ?_
      refine Ops.on rfl ?_
      refine Ops.ex (Ex.fieldAddr rfl Try.underlying73 rfl sz22) rfl rfl rfl ?_
      refine Ops.on rfl ?_
      refine Ops.load rfl Try.underlying22 rfl (hst13.cell (i := 5) rfl rfl) rfl ?_
      refine Ops.on rfl ?_
      refine Ops.ex (Ex.len' rfl rfl rfl Try.underlying22) rfl rfl rfl ?_
      refine Ops.on rfl ?_
      refine Ops.ex (Ex.geq rfl rfl) rfl rfl rfl ?_
      refine Ops.ex (Ex.pickF rfl rfl) rfl rfl rfl ?_
      refine Ops.nil ?_
      have hA16 : Ar1 z0 Γ1 ar1 ([blk g13 [.slice A14 y13.b_.length c14, vi y13.safe_] 73, orow 5 1 (.slice A14 y13.b_.length c14) y13.b_.length d14] ++ Hr13) := hba13 _ hle0 _ ⟨_, _, _, _, f14, rfl, rfl⟩
      have hst16 : Ht w0 (frz z0 :: (blk g0 [.map (some gm1), .map (some gm2), .slice A3 p0.wait_.length c3, vi p0.room_, vi p0.left_, vb p0.down_, vi p0.calls_] 68) :: (ob gm1 (.map E1 c1)) :: (ob gm2 (.map E2 c2)) :: (orow 78 1 (.slice A3 p0.wait_.length c3) p0.wait_.length d3) :: (([blk g13 [.slice A14 y13.b_.length c14, vi y13.safe_] 73, orow 5 1 (.slice A14 y13.b_.length c14) y13.b_.length d14] ++ Hr13) ++ X)) _ := hst13
      refine Run.cond rfl (fun hc => ?_) (fun hc => ?_)
      · replace hf := ifT (dec_T hc) hf
        refine Run.seq ?_
        refine Run.region ?_
        refine Ops.ex (Ex.assign rfl) rfl rfl rfl ?_
        refine Ops.nil ?_
        obtain rfl := Option.some.inj hf
        exact Run.retV [vb false] rfl ⟨rfl, trivial⟩ ⟨z0, ([blk g13 [.slice A14 y13.b_.length c14, vi y13.safe_] 73, orow 5 1 (.slice A14 y13.b_.length c14) y13.b_.length d14] ++ Hr13), rfl, hle0, hA16, hst16⟩
      · replace hf := ifF (dec_F hc) hf
        refine Run.skip ?_
        refine Run.seq ?_
        refine Run.region ?_
        refine Ops.ex (Ex.move rfl) rfl rfl rfl ?_
        refine Ops.ex (Ex.move rfl) rfl rfl rfl ?_
        obtain ⟨i17, hi17, hf⟩ := bnd hf
        obtain ⟨y17, hy17, hf⟩ := bnd hf
        obtain ⟨g17, hA17, hg17⟩ := PtA.some f12 hi17
        obtain ⟨rs17, Hr17, hO17, hP17, hcl17, hba17⟩ := ArL.open O1.mono hA16 hg17 hy17
        obtain ⟨A18, c18, _, d18, f18, rfl, rfl⟩ := hO17
        have hst17 : Ht w0 (frz z0 :: (blk g0 [.map (some gm1), .map (some gm2), .slice A3 p0.wait_.length c3, vi p0.room_, vi p0.left_, vb p0.down_, vi p0.calls_] 68) :: (ob gm1 (.map E1 c1)) :: (ob gm2 (.map E2 c2)) :: (orow 78 1 (.slice A3 p0.wait_.length c3) p0.wait_.length d3) :: (blk g17 [.slice A18 y17.b_.length c18, vi y17.safe_] 73) :: (orow 5 1 (.slice A18 y17.b_.length c18) y17.b_.length d18) :: (Hr17 ++ X)) _ := St.tailP (B := [blk g0 [.map (some gm1), .map (some gm2), .slice A3 p0.wait_.length c3, vi p0.room_, vi p0.left_, vb p0.down_, vi p0.calls_] 68, ob gm1 (.map E1 c1), ob gm2 (.map E2 c2), orow 78 1 (.slice A3 p0.wait_.length c3) p0.wait_.length d3]) hst16 hP17
        refine Ops.ex (Ex.nilP hA17 rfl) rfl rfl rfl ?_
        refine Ops.ex (Ex.fieldAddr rfl Try.underlying73 rfl sz22) rfl rfl rfl ?_
        refine Ops.load rfl Try.underlying22 rfl (hst17.cell (i := 5) rfl rfl) rfl ?_
        obtain ⟨y20, hy20, hf⟩ := bnd hf
        refine Ops.call rfl rfl Try.func37 (by kernel_rfl) (by kernel_rfl) rfl (go_slices_Clone_byte_byte.walk (p0 := y17.b_) (hst := (St.up (St.up (St.up (St.up (St.up (St.up (St.up hst17 5 rfl) 5 rfl) 5 rfl) 5 rfl) 5 rfl) 6 rfl) 6 rfl)) (f1 := f18) (hn1 := rfl) (hf := hy20)) ?_
        rintro _ w20 ⟨z20, A21, c21, d21, d22, rfl, hz20, f21, f22, hn22, hst20⟩
        refine ⟨_, rfl, ?_⟩
        replace f12 := f12.mono hz20; replace f1 := f1.mono hz20; replace f2 := f2.mono hz20; replace f3 := f3.mono hz20
        replace hle0 := hle0.trans hz20
        refine Ops.ex (Ex.nilP hA17 rfl) rfl rfl rfl ?_
        refine Ops.ex (Ex.fieldAddr rfl Try.underlying73 rfl sz22) rfl rfl rfl ?_
        refine Ops.store 7 [.slice A21 y20.1.length c21] hst20 rfl rfl rfl rfl sz22 rfl (by simp [Value.oneCell']) (by simp) (fun w23 hst23 => ?_)
        refine Ops.nil ?_
        have hA24 : Ar1 z20 Γ1 (ar1.set i17 (⟨y20.1, y17.safe_⟩ : filesfile)) ([blk g17 [.slice A21 y20.1.length c21, vi y17.safe_] 73, orow 5 1 (.slice A21 y20.1.length c21) y20.1.length d21] ++ Hr17) := hcl17 _ hle0 _ _ ⟨_, _, _, _, f21, rfl, rfl⟩
        obtain ⟨ar24, hy24, hf⟩ := bnd hf
        rw [Option.some.inj hy24] at hA24
        have hst24 : Ht w0 (frz z20 :: (orow 5 1 (.slice A18 y17.b_.length c18) y17.b_.length d22) :: (blk g0 [.map (some gm1), .map (some gm2), .slice A3 p0.wait_.length c3, vi p0.room_, vi p0.left_, vb p0.down_, vi p0.calls_] 68) :: (ob gm1 (.map E1 c1)) :: (ob gm2 (.map E2 c2)) :: (orow 78 1 (.slice A3 p0.wait_.length c3) p0.wait_.length d3) :: (([blk g17 [.slice A21 y20.1.length c21, vi y17.safe_] 73, orow 5 1 (.slice A21 y20.1.length c21) y20.1.length d21] ++ Hr17) ++ X)) _ := (St.up (St.up (St.up (St.up (St.up (St.up (St.up (St.up hst23 2 rfl) 7 rfl) 7 rfl) 7 rfl) 7 rfl) 7 rfl) 7 rfl) 7 rfl)
        refine Run.seq ?_
        refine Run.region ?_
        refine Ops.ex (Ex.move rfl) rfl rfl rfl ?_
        have hm26 := Le.refl z20
        obtain ⟨i25, hi25, hf⟩ := bnd hf
        obtain ⟨y25, hy25, hf⟩ := bnd hf
        obtain ⟨g25, hA25, hg25⟩ := PtA.some f12 hi25
        obtain ⟨rs25, Hr25, hO25, hP25, hcl25, hba25⟩ := ArL.open O1.mono hA24 hg25 hy25
        obtain ⟨A27, c27, _, d27, f27, rfl, rfl⟩ := hO25
        have hst25 : Ht w0 (frz z20 :: (orow 5 1 (.slice A18 y17.b_.length c18) y17.b_.length d22) :: (blk g0 [.map (some gm1), .map (some gm2), .slice A3 p0.wait_.length c3, vi p0.room_, vi p0.left_, vb p0.down_, vi p0.calls_] 68) :: (ob gm1 (.map E1 c1)) :: (ob gm2 (.map E2 c2)) :: (orow 78 1 (.slice A3 p0.wait_.length c3) p0.wait_.length d3) :: (blk g25 [.slice A27 y25.b_.length c27, vi y25.safe_] 73) :: (orow 5 1 (.slice A27 y25.b_.length c27) y25.b_.length d27) :: (Hr25 ++ X)) _ := St.tailP (B := [orow 5 1 (.slice A18 y17.b_.length c18) y17.b_.length d22, blk g0 [.map (some gm1), .map (some gm2), .slice A3 p0.wait_.length c3, vi p0.room_, vi p0.left_, vb p0.down_, vi p0.calls_] 68, ob gm1 (.map E1 c1), ob gm2 (.map E2 c2), orow 78 1 (.slice A3 p0.wait_.length c3) p0.wait_.length d3]) hst24 hP25
        refine Ops.ex (Ex.nilP hA25 rfl) rfl rfl rfl ?_
        refine Ops.ex (Ex.fieldAddr rfl Try.underlying73 rfl sz22) rfl rfl rfl ?_
        refine Ops.load rfl Try.underlying22 rfl (hst25.cell (i := 6) rfl rfl) rfl ?_
        refine Ops.ex (Ex.move rfl) rfl rfl rfl ?_
        obtain ⟨y29, hy29, hf⟩ := bnd hf
        obtain ⟨g31, p31, o31, cs31, hA31, ho31, hr31, f31⟩ := own_elem f27 rfl (hst25.get (i := 7) rfl) hy29
        obtain rfl := hr31
        refine Ops.ex (Ex.ixA hA31 ho31 hy29 rfl rfl rfl Try.underlying22 sz5) rfl rfl rfl ?_
        refine Ops.load rfl Try.underlying5 rfl ((f31 _ (hst25.get (i := 7) rfl)) 0 _ rfl) rfl ?_
        refine Ops.ex (Ex.move rfl) rfl rfl rfl ?_
        refine Ops.ex (Ex.xor8 rfl rfl) rfl rfl rfl ?_
        obtain ⟨g33, p33, o33, cs33, hA33, ho33, hr33, f33⟩ := own_elem f27 rfl (hst25.get (i := 7) rfl) hy29
        obtain rfl := hr33
        refine Ops.ex (Ex.ixA hA33 ho33 hy29 rfl rfl rfl Try.underlying22 sz5) rfl rfl rfl ?_
        obtain ⟨l34, hy34, hf⟩ := bnd hf
        refine Ops.storeN (off := 0) (cs := [vu8 y29]) (cs' := [vu8 (y29 ^^^ p3)]) 7 hst25 rfl f27 rfl hA33 ho33 hy34 f33 rfl rfl rfl rfl rfl rfl sz5 rfl (by simp [Value.oneCell']) (by simp) (fun d34 w34 f34 hn34 hst34 => ?_)
        refine Ops.nil ?_
        have hA35 : Ar1 z20 Γ1 (ar24.set i25 (⟨l34, y25.safe_⟩ : filesfile)) ([blk g25 [.slice A27 y25.b_.length c27, vi y25.safe_] 73, orow 5 1 (.slice A27 y25.b_.length c27) y25.b_.length d34] ++ Hr25) := hcl25 _ hm26 _ _ ⟨_, _, _, _, f34, hn34, rfl⟩
        obtain ⟨ar35, hy35, hf⟩ := bnd hf
        rw [Option.some.inj hy35] at hA35
        have hst35 : Ht w0 (frz z20 :: (orow 5 1 (.slice A18 y17.b_.length c18) y17.b_.length d22) :: (blk g0 [.map (some gm1), .map (some gm2), .slice A3 p0.wait_.length c3, vi p0.room_, vi p0.left_, vb p0.down_, vi p0.calls_] 68) :: (ob gm1 (.map E1 c1)) :: (ob gm2 (.map E2 c2)) :: (orow 78 1 (.slice A3 p0.wait_.length c3) p0.wait_.length d3) :: (([blk g25 [.slice A27 y25.b_.length c27, vi y25.safe_] 73, orow 5 1 (.slice A27 y25.b_.length c27) y25.b_.length d34] ++ Hr25) ++ X)) _ := hst34
        refine Run.seq ?_
        refine Run.region ?_
        refine Ops.ex (Ex.assign rfl) rfl rfl rfl ?_
        refine Ops.nil ?_
        obtain rfl := Option.some.inj hf
        exact Run.retV [vb true] rfl ⟨rfl, trivial⟩ ⟨z20, ([blk g25 [.slice A27 y25.b_.length c27, vi y25.safe_] 73, orow 5 1 (.slice A27 y25.b_.length c27) y25.b_.length d34] ++ Hr25), rfl, hle0, hA35, (St.forget hst35 1)⟩
def go_files_Disk_Rename (p0 : filesDisk) (p1 : Str) (p2 : Str) : Option (Int × filesDisk) :=
  if p0.down_ then (some (7, p0)) else (if (mget p0.now_ p1).isSome then (if p1 = p2 then (some (14, p0)) else ((go_files_Disk_call p0).bind fun y12 => if y12.1 then ((go_files_Disk_set y12.2 [(⟨p1, none⟩ : fileschange), (⟨p2, ((mget p0.now_ p1).getD none)⟩ : fileschange)]).bind fun y22 => some (0, y22)) else (some (7, y12.2)))) else (some (6, p0)))
set_option maxRecDepth 100000 in
set_option maxHeartbeats 4000000 in
theorem go_files_Disk_Rename.walk {w0 w : World} {Γ1 : List Nat} {X : List Res} {z0 : Zp} {p0 : filesDisk} {g0 : Nat} {gm1 : Nat} {E1 : Array MapEntry} {c1 : Nat} {gm2 : Nat} {E2 : Array MapEntry} {c2 : Nat} {A3 : Option Addr} {c3 : Nat} {d3 : List Value} {p1 : Str} {p2 : Str} {r : Int × filesDisk} (hst : Ht w0 (frz z0 :: (blk g0 [.map (some gm1), .map (some gm2), .slice A3 p0.wait_.length c3, vi p0.room_, vi p0.left_, vb p0.down_, vi p0.calls_] 68) :: (ob gm1 (.map E1 c1)) :: (ob gm2 (.map E2 c2)) :: (orow 78 1 (.slice A3 p0.wait_.length c3) p0.wait_.length d3) :: X) w) (f1 : Mr (tA Γ1) pk1 z0 E1 c1 p0.now_) (f2 : Mr (tA Γ1) pk1 z0 E2 c2 p0.safe_) (f3 : Cs (tSl (tfileschange Γ1)) z0 d3 p0.wait_) (hf : go_files_Disk_Rename p0 p1 p2 = some r) :
    Calls Try.prog 28 #[.pointer (some ⟨g0, 0, none⟩), vs p1, vs p2] w fun e w' => ∃ (z' : Zp) (gm9002 : Nat) (E9002 : Array MapEntry) (c9002 : Nat) (gm9003 : Nat) (E9003 : Array MapEntry) (c9003 : Nat) (A9004 : Option Addr) (c9004 : Nat) (d9004 : List Value), e = .returned (vi r.1) ∧ Le z0 z' ∧ Mr (tA Γ1) pk1 z' E9002 c9002 r.2.now_ ∧ Mr (tA Γ1) pk1 z' E9003 c9003 r.2.safe_ ∧ Cs (tSl (tfileschange Γ1)) z' d9004 r.2.wait_ ∧ Ht w0 (frz z' :: (blk g0 [.map (some gm9002), .map (some gm9003), .slice A9004 r.2.wait_.length c9004, vi r.2.room_, vi r.2.left_, vb r.2.down_, vi r.2.calls_] 68) :: (ob gm9002 (.map E9002 c9002)) :: (ob gm9003 (.map E9003 c9003)) :: (orow 78 1 (.slice A9004 r.2.wait_.length c9004) r.2.wait_.length d9004) :: X) w' := by
  refine calls_np Try.func28 rfl rfl ?_
  have hle0 := Le.refl z0
  unfold go_files_Disk_Rename at hf
  refine Run.seq ?_
  refine Run.region ?_
  refine Ops.ex (Ex.assign rfl) rfl rfl rfl ?_
  refine Ops.nil ?_
  refine Run.seq ?_
  refine Run.region ?_
  refine Ops.ex (Ex.move rfl) rfl rfl rfl ?_
  refine Ops.ex (Ex.nilCheck rfl) rfl rfl rfl ?_
  refine Ops.ex (Ex.fieldAddr rfl Try.underlying68 rfl sz65) rfl rfl rfl ?_
  refine Ops.load rfl Try.underlying65 rfl (hst.cell (i := 1) rfl rfl) rfl ?_
  refine Ops.ex (Ex.move rfl) rfl rfl rfl ?_
  refine Ops.mlook (zcs := [.pointer none]) (s := p1) none (Mr.own f1 hst (i := 2) rfl) rfl rfl Try.underlying65 Try.underlying9 zr69 ⟨_, rfl, (PtA.nil _)⟩ rfl (fun cs10 hR10 => ?_)
  obtain ⟨A11, rfl, f11⟩ := hR10
  refine Ops.ex (Ex.move rfl) rfl rfl rfl ?_
  refine Ops.ex (Ex.extract rfl rfl) rfl rfl rfl ?_
  refine Ops.ex (Ex.extract rfl rfl) rfl rfl rfl ?_
  refine Ops.ex (Ex.assign rfl) rfl rfl rfl ?_
  refine Ops.ex (Ex.assign rfl) rfl rfl rfl ?_
  refine Ops.nil ?_
  refine Run.seq ?_
  refine Run.block ?_
  refine Run.seq ?_
  refine Run.region ?_
  refine Ops.ex (Ex.move rfl) rfl rfl rfl ?_
  refine Ops.ex (Ex.nilCheck rfl) rfl rfl rfl ?_
  refine Ops.ex (Ex.fieldAddr rfl Try.underlying68 rfl sz4) rfl rfl rfl ?_
  refine Ops.load rfl Try.underlying4 rfl (hst.cell (i := 1) rfl rfl) rfl ?_
  refine Ops.ex (Ex.assign rfl) rfl rfl rfl ?_
  refine Ops.nil ?_
  refine Run.cond rfl (fun hc => ?_) (fun hc => ?_)
  · replace hf := ifTb hc hf
    refine Run.seq ?_
    refine Run.region ?_
    refine Ops.ex (Ex.assign rfl) rfl rfl rfl ?_
    refine Ops.nil ?_
    obtain rfl := Option.some.inj hf
    exact Run.retV [vi 7] rfl ⟨rfl, trivial⟩ ⟨z0, gm1, E1, c1, gm2, E2, c2, A3, c3, d3, rfl, hle0, f1, f2, f3, hst⟩
  · replace hf := ifFb hc hf
    refine Run.seq ?_
    refine Run.region ?_
    refine Ops.ex (Ex.move rfl) rfl rfl rfl ?_
    refine Ops.ex (Ex.not rfl) rfl rfl rfl ?_
    refine Ops.ex (Ex.assign rfl) rfl rfl rfl ?_
    refine Ops.nil ?_
    refine Run.cond rfl (fun hc => ?_) (fun hc => ?_)
    · replace hf := ifFb (bn_T hc) hf
      refine Run.seq ?_
      refine Run.region ?_
      refine Ops.ex (Ex.assign rfl) rfl rfl rfl ?_
      refine Ops.nil ?_
      obtain rfl := Option.some.inj hf
      exact Run.retV [vi 6] rfl ⟨rfl, trivial⟩ ⟨z0, gm1, E1, c1, gm2, E2, c2, A3, c3, d3, rfl, hle0, f1, f2, f3, hst⟩
    · replace hf := ifTb (bn_F hc) hf
      refine Run.seq ?_
      refine Run.region ?_
      refine Ops.ex (Ex.move rfl) rfl rfl rfl ?_
      refine Ops.ex (Ex.move rfl) rfl rfl rfl ?_
      refine Ops.ex (Ex.eqlT rfl rfl) rfl rfl rfl ?_
      refine Ops.ex (Ex.assign rfl) rfl rfl rfl ?_
      refine Ops.nil ?_
      refine Run.cond rfl (fun hc => ?_) (fun hc => ?_)
      · replace hf := ifT (dec_T hc) hf
        refine Run.seq ?_
        refine Run.region ?_
        refine Ops.ex (Ex.assign rfl) rfl rfl rfl ?_
        refine Ops.nil ?_
        obtain rfl := Option.some.inj hf
        exact Run.retV [vi 14] rfl ⟨rfl, trivial⟩ ⟨z0, gm1, E1, c1, gm2, E2, c2, A3, c3, d3, rfl, hle0, f1, f2, f3, hst⟩
      · replace hf := ifF (dec_F hc) hf
        refine Run.seq ?_
        refine Run.region ?_
        refine Ops.ex (Ex.move rfl) rfl rfl rfl ?_
        obtain ⟨y12, hy12, hf⟩ := bnd hf
        refine Ops.call rfl rfl Try.func35 (by kernel_rfl) (by kernel_rfl) rfl (go_files_Disk_call.walk (Γ1 := Γ1) (p0 := p0) (hst := hst) (f1 := f1) (f2 := f2) (f3 := f3) (hf := hy12)) ?_
        rintro _ w12 ⟨z12, gm14, E14, c14, gm15, E15, c15, A16, c16, d16, rfl, hz12, f14, f15, f16, hst12⟩
        refine ⟨_, rfl, ?_⟩
        replace f11 := f11.mono hz12
        replace hle0 := hle0.trans hz12
        refine Ops.ex (Ex.not rfl) rfl rfl rfl ?_
        refine Ops.ex (Ex.assign rfl) rfl rfl rfl ?_
        refine Ops.nil ?_
        refine Run.cond rfl (fun hc => ?_) (fun hc => ?_)
        · replace hf := ifFb (bn_T hc) hf
          refine Run.seq ?_
          refine Run.region ?_
          refine Ops.ex (Ex.assign rfl) rfl rfl rfl ?_
          refine Ops.nil ?_
          obtain rfl := Option.some.inj hf
          exact Run.retV [vi 7] rfl ⟨rfl, trivial⟩ ⟨z12, gm14, E14, c14, gm15, E15, c15, A16, c16, d16, rfl, hle0, f14, f15, f16, hst12⟩
        · replace hf := ifTb (bn_F hc) hf
          refine Run.skip ?_
          refine Run.endBlk ?_
          refine Run.seq ?_
          refine Run.region ?_
          refine Ops.ex (Ex.move rfl) rfl rfl rfl ?_
          refine Ops.ex (Ex.move rfl) rfl rfl rfl ?_
          refine Ops.ex (Ex.build [vs p1, .pointer none] rfl Try.underlying75 zr75 (pl75 Try.underlying75) (by kernel_rfl)) rfl rfl rfl ?_
          refine Ops.ex (Ex.move rfl) rfl rfl rfl ?_
          refine Ops.ex (Ex.move rfl) rfl rfl rfl ?_
          refine Ops.ex (Ex.build [vs p2, .pointer A11] rfl Try.underlying75 zr75 (pl75 Try.underlying75) (by kernel_rfl)) rfl rfl rfl ?_
          refine Ops.sliceF [vs p1, .pointer none, vs p2, .pointer A11] hst12 rfl Try.underlying78 sz75 zr75 rfl rfl (by kernel_rfl) rfl (by simp [Value.oneCell']) rfl (fun A21 w21 hst21 => ?_)
          have f21 : Cs (tfileschange Γ1) z12 [vs p1, .pointer none, vs p2, .pointer A11] [(⟨p1, none⟩ : fileschange), (⟨p2, ((mget p0.now_ p1).getD none)⟩ : fileschange)] := (Cs.cons (c := [vs p1, .pointer none]) ⟨_, rfl, (PtA.nil _)⟩ (Cs.cons (c := [vs p2, .pointer A11]) ⟨_, rfl, f11⟩ (Cs.nil _ _)))
          obtain ⟨z23, hz23, f23, hst23⟩ := St.freeze (τ := (tfileschange Γ1)) (xs := [(⟨p1, none⟩ : fileschange), (⟨p2, ((mget p0.now_ p1).getD none)⟩ : fileschange)]) hst21 f21 rfl
          replace f11 := f11.mono hz23; replace f14 := f14.mono hz23; replace f15 := f15.mono hz23; replace f16 := f16.mono hz23
          replace hle0 := hle0.trans hz23
          obtain ⟨y22, hy22, hf⟩ := bnd hf
          refine Ops.call rfl rfl Try.func36 (by kernel_rfl) (by kernel_rfl) rfl (go_files_Disk_set.walk (Γ1 := Γ1) (p0 := y12.2) (p1 := [(⟨p1, none⟩ : fileschange), (⟨p2, ((mget p0.now_ p1).getD none)⟩ : fileschange)]) (hst := hst23) (f1 := f14) (f2 := f15) (f3 := f16) (f8 := f23) (hf := hy22)) ?_
          rintro _ w22 ⟨z22, gm24, E24, c24, gm25, E25, c25, A26, c26, d26, rfl, hz22, f24, f25, f26, hst22⟩
          refine ⟨_, rfl, ?_⟩
          replace f11 := f11.mono hz22; replace f23 := f23.mono hz22
          replace hle0 := hle0.trans hz22
          refine Ops.nil ?_
          refine Run.seq ?_
          refine Run.region ?_
          refine Ops.ex (Ex.assign rfl) rfl rfl rfl ?_
          refine Ops.nil ?_
          obtain rfl := Option.some.inj hf
          exact Run.retV [vi 0] rfl ⟨rfl, trivial⟩ ⟨z22, gm24, E24, c24, gm25, E25, c25, A26, c26, d26, rfl, hle0, f24, f25, f26, hst22⟩
def go_files_Disk_Arm (p0 : filesDisk) (p1 : Int) : Option filesDisk :=
  some (⟨p0.now_, p0.safe_, p0.wait_, p0.room_, max (-1) p1, p0.down_, p0.calls_⟩ : filesDisk)
set_option maxRecDepth 100000 in
set_option maxHeartbeats 4000000 in
theorem go_files_Disk_Arm.walk {w0 w : World} {Γ1 : List Nat} {X : List Res} {z0 : Zp} {p0 : filesDisk} {g0 : Nat} {gm1 : Nat} {E1 : Array MapEntry} {c1 : Nat} {gm2 : Nat} {E2 : Array MapEntry} {c2 : Nat} {A3 : Option Addr} {c3 : Nat} {d3 : List Value} {p1 : Int} {r : filesDisk} (hst : Ht w0 (frz z0 :: (blk g0 [.map (some gm1), .map (some gm2), .slice A3 p0.wait_.length c3, vi p0.room_, vi p0.left_, vb p0.down_, vi p0.calls_] 68) :: (ob gm1 (.map E1 c1)) :: (ob gm2 (.map E2 c2)) :: (orow 78 1 (.slice A3 p0.wait_.length c3) p0.wait_.length d3) :: X) w) (f1 : Mr (tA Γ1) pk1 z0 E1 c1 p0.now_) (f2 : Mr (tA Γ1) pk1 z0 E2 c2 p0.safe_) (f3 : Cs (tSl (tfileschange Γ1)) z0 d3 p0.wait_) (hf : go_files_Disk_Arm p0 p1 = some r) :
    Calls Try.prog 23 #[.pointer (some ⟨g0, 0, none⟩), vi p1] w fun e w' => ∃ (z' : Zp) (gm9001 : Nat) (E9001 : Array MapEntry) (c9001 : Nat) (gm9002 : Nat) (E9002 : Array MapEntry) (c9002 : Nat) (A9003 : Option Addr) (c9003 : Nat) (d9003 : List Value), e = .returned (.tuple #[]) ∧ Le z0 z' ∧ Mr (tA Γ1) pk1 z' E9001 c9001 r.now_ ∧ Mr (tA Γ1) pk1 z' E9002 c9002 r.safe_ ∧ Cs (tSl (tfileschange Γ1)) z' d9003 r.wait_ ∧ Ht w0 (frz z' :: (blk g0 [.map (some gm9001), .map (some gm9002), .slice A9003 r.wait_.length c9003, vi r.room_, vi r.left_, vb r.down_, vi r.calls_] 68) :: (ob gm9001 (.map E9001 c9001)) :: (ob gm9002 (.map E9002 c9002)) :: (orow 78 1 (.slice A9003 r.wait_.length c9003) r.wait_.length d9003) :: X) w' := by
  refine calls_np Try.func23 rfl rfl ?_
  have hle0 := Le.refl z0
  unfold go_files_Disk_Arm at hf
  refine Run.region ?_
  refine Ops.ex (Ex.move rfl) rfl rfl rfl ?_
  refine Ops.ex (Ex.move rfl) rfl rfl rfl ?_
  refine Ops.ex (Ex.max2 rfl rfl rfl) rfl rfl rfl ?_
  refine Ops.ex (Ex.nilCheck rfl) rfl rfl rfl ?_
  refine Ops.ex (Ex.fieldAddr rfl Try.underlying68 rfl sz3) rfl rfl rfl ?_
  refine Ops.store 1 [vi (max (-1) p1)] hst rfl rfl rfl rfl sz3 rfl (by simp [Value.oneCell']) (by simp) (fun w9 hst9 => ?_)
  refine Ops.nil ?_
  obtain rfl := Option.some.inj hf
  exact Run.doneV [] rfl trivial ⟨z0, gm1, E1, c1, gm2, E2, c2, A3, c3, d3, rfl, hle0, f1, f2, f3, hst9⟩
def go_law04_name (p0 : UInt8) : Option Str :=
  (cutI [97, 98, 99, 100, 101, 102] ((p0 % 6).toNat : Int) (((p0 % 6) + 1).toNat : Int)).bind fun s2 => (catI [102] s2).bind fun s3 => some s3
set_option maxRecDepth 100000 in
set_option maxHeartbeats 4000000 in
theorem go_law04_name.walk {w0 w : World} {X : List Res} {z0 : Zp} {p0 : UInt8} {r : Str} (hst : Ht w0 (frz z0 :: X) w) (hf : go_law04_name p0 = some r) :
    Calls Try.prog 41 #[vu8 p0] w fun e w' => ∃ (z' : Zp), e = .returned (vs r) ∧ Le z0 z' ∧ Ht w0 (frz z' :: X) w' := by
  refine calls_np Try.func41 rfl rfl ?_
  have hle0 := Le.refl z0
  unfold go_law04_name at hf
  refine Run.seq ?_
  refine Run.region ?_
  refine Ops.ex (Ex.assign rfl) rfl rfl rfl ?_
  refine Ops.nil ?_
  refine Run.seq ?_
  refine Run.region ?_
  refine Ops.ex (Ex.move rfl) rfl rfl rfl ?_
  refine Ops.ex (Ex.rem8 (a := p0) (b := 6) rfl rfl (by decide)) rfl rfl rfl ?_
  refine Ops.ex (Ex.move rfl) rfl rfl rfl ?_
  refine Ops.ex (Ex.rem8 (a := p0) (b := 6) rfl rfl (by decide)) rfl rfl rfl ?_
  refine Ops.ex (Ex.add8 (a := (p0 % 6)) (b := 1) rfl rfl) rfl rfl rfl ?_
  obtain ⟨s2, hy2, hf⟩ := bnd hf
  refine Ops.ex (Ex.cutT (s := [97, 98, 99, 100, 101, 102]) hy2 rfl Try.underlying9 rfl rfl) rfl rfl rfl ?_
  obtain ⟨s3, hy3, hf⟩ := bnd hf
  refine Ops.ex (Ex.addT (s := [102]) hy3 rfl rfl) rfl rfl rfl ?_
  refine Ops.ex (Ex.assign rfl) rfl rfl rfl ?_
  refine Ops.nil ?_
  obtain rfl := Option.some.inj hf
  exact Run.retV [vs s3] rfl ⟨rfl, trivial⟩ ⟨z0, rfl, hle0, hst⟩
def go_law04_Do.j3 (p0 : filesDisk) (p2 : List UInt8) (ar1 : List filesfile) (y15 : Str) (b83 : Bool) : Option (Int × filesDisk × List filesfile) :=
  if b83 then ((go_files_Disk_Remove p0 y15).bind fun y86 => some (y86.1, y86.2, ar1)) else ((go_files_Disk_Append p0 y15 p2 ar1).bind fun y95 => some (y95.1, y95.2.1, y95.2.2))
def go_law04_Do.j2 (p0 : filesDisk) (p1 : law04Act) (p2 : List UInt8) (ar1 : List filesfile) (y15 : Str) (b47 : Bool) : Option (Int × filesDisk × List filesfile) :=
  if b47 then ((go_files_Disk_Sync p0 y15 ar1).bind fun y50 => some (y50.1, y50.2.1, y50.2.2)) else (if p1.Op % 12 = 5 then ((go_files_Disk_SyncDir p0).bind fun y60 => some (y60.1, y60.2, ar1)) else (if p1.Op % 12 = 6 then ((go_law04_name p1.To).bind fun y69 => (go_files_Disk_Rename p0 y15 y69).bind fun y71 => some (y71.1, y71.2, ar1)) else (if p1.Op % 12 = 10 then (go_law04_Do.j3 p0 p2 ar1 y15 (decide (p1.Op % 12 = 10))) else (go_law04_Do.j3 p0 p2 ar1 y15 (decide (p1.Op % 12 = 11))))))
def go_law04_Do.j1 (p0 : filesDisk) (p1 : law04Act) (p2 : List UInt8) (ar1 : List filesfile) (y15 : Str) (b20 : Bool) : Option (Int × filesDisk × List filesfile) :=
  if b20 then ((go_files_Disk_Create p0 y15 ar1).bind fun y23 => some (y23.1, y23.2.1, y23.2.2)) else (if p1.Op % 12 = 3 then ((go_files_Disk_Cut p0 y15 p1.N.toInt ar1).bind fun y34 => some (y34.1, y34.2.1, y34.2.2)) else (if p1.Op % 12 = 4 then (go_law04_Do.j2 p0 p1 p2 ar1 y15 (decide (p1.Op % 12 = 4))) else (go_law04_Do.j2 p0 p1 p2 ar1 y15 (decide (p1.Op % 12 = 9)))))
def go_law04_Do (p0 : filesDisk) (p1 : law04Act) (p2 : List UInt8) (ar1 : List filesfile) : Option (Int × filesDisk × List filesfile) :=
  (go_law04_name p1.Name).bind fun y15 => if p1.Op % 12 = 0 then (go_law04_Do.j1 p0 p1 p2 ar1 y15 (decide (p1.Op % 12 = 0))) else (go_law04_Do.j1 p0 p1 p2 ar1 y15 (decide (p1.Op % 12 = 1)))
set_option maxRecDepth 100000 in
set_option maxHeartbeats 4000000 in
theorem go_law04_Do.walk {w0 w : World} {Γ1 : List Nat} {X : List Res} {z0 : Zp} {p0 : filesDisk} {g0 : Nat} {gm1 : Nat} {E1 : Array MapEntry} {c1 : Nat} {gm2 : Nat} {E2 : Array MapEntry} {c2 : Nat} {A3 : Option Addr} {c3 : Nat} {d3 : List Value} {p1 : law04Act} {A11 : Option Addr} {c11 : Nat} {p2 : List UInt8} {A13 : Option Addr} {c13 : Nat} {ar1 : List filesfile} {Ha1 : List Res} {r : Int × filesDisk × List filesfile} (hst : Ht w0 (frz z0 :: (blk g0 [.map (some gm1), .map (some gm2), .slice A3 p0.wait_.length c3, vi p0.room_, vi p0.left_, vb p0.down_, vi p0.calls_] 68) :: (ob gm1 (.map E1 c1)) :: (ob gm2 (.map E2 c2)) :: (orow 78 1 (.slice A3 p0.wait_.length c3) p0.wait_.length d3) :: (Ha1 ++ X)) w) (f1 : Mr (tA Γ1) pk1 z0 E1 c1 p0.now_) (f2 : Mr (tA Γ1) pk1 z0 E2 c2 p0.safe_) (f3 : Cs (tSl (tfileschange Γ1)) z0 d3 p0.wait_) (f11 : Sl tU8 z0 A11 c11 p1.Bytes) (f13 : Sl tU8 z0 A13 c13 p2) (hA1 : Ar1 z0 Γ1 ar1 Ha1) (hf : go_law04_Do p0 p1 p2 ar1 = some r) :
    Calls Try.prog 30 #[.pointer (some ⟨g0, 0, none⟩), .agg #[vu8 p1.Op, vu8 p1.Name, vu8 p1.To, .slice A11 p1.Bytes.length c11, vi16 p1.N], .slice A13 p2.length c13] w fun e w' => ∃ (z' : Zp) (gm9002 : Nat) (E9002 : Array MapEntry) (c9002 : Nat) (gm9003 : Nat) (E9003 : Array MapEntry) (c9003 : Nat) (A9004 : Option Addr) (c9004 : Nat) (d9004 : List Value) (Ha9009 : List Res) (Γn1 : List Nat), e = .returned (vi r.1) ∧ Le z0 z' ∧ Mr (tA Γn1) pk1 z' E9002 c9002 r.2.1.now_ ∧ Mr (tA Γn1) pk1 z' E9003 c9003 r.2.1.safe_ ∧ Cs (tSl (tfileschange Γn1)) z' d9004 r.2.1.wait_ ∧ Ar1 z' Γn1 r.2.2 Ha9009 ∧ Γ1 <+: Γn1 ∧ Ht w0 (frz z' :: (blk g0 [.map (some gm9002), .map (some gm9003), .slice A9004 r.2.1.wait_.length c9004, vi r.2.1.room_, vi r.2.1.left_, vb r.2.1.down_, vi r.2.1.calls_] 68) :: (ob gm9002 (.map E9002 c9002)) :: (ob gm9003 (.map E9003 c9003)) :: (orow 78 1 (.slice A9004 r.2.1.wait_.length c9004) r.2.1.wait_.length d9004) :: (Ha9009 ++ X)) w' := by
  refine calls_np Try.func30 rfl rfl ?_
  have hle0 := Le.refl z0
  unfold go_law04_Do at hf
  have hGi1 := List.prefix_rfl (l := Γ1)
  refine Run.seq ?_
  refine Run.region ?_
  refine Ops.boxF [vu8 p1.Op, vu8 p1.Name, vu8 p1.To, .slice A11 p1.Bytes.length c11, vi16 p1.N] hst rfl rfl rfl (fun g14 w14 hst14 => ?_)
  refine Ops.ex (Ex.assign rfl) rfl rfl rfl ?_
  refine Ops.nil ?_
  refine Run.seq ?_
  refine Run.region ?_
  refine Ops.ex (Ex.fieldAddr rfl Try.underlying49 rfl sz5) rfl rfl rfl ?_
  refine Ops.load rfl Try.underlying5 rfl (hst14.cell (i := 1) rfl rfl) rfl ?_
  obtain ⟨y15, hy15, hf⟩ := bnd hf
  refine Ops.call rfl rfl Try.func41 (by kernel_rfl) (by kernel_rfl) rfl (go_law04_name.walk (p0 := p1.Name) (hst := hst14) (hf := hy15)) ?_
  rintro _ w15 ⟨z15, rfl, hz15, hst15⟩
  refine ⟨_, rfl, ?_⟩
  replace f11 := f11.mono hz15; replace f13 := f13.mono hz15; replace f1 := f1.mono hz15; replace f2 := f2.mono hz15; replace f3 := f3.mono hz15; replace hA1 := hA1.mono hz15
  replace hle0 := hle0.trans hz15
  refine Ops.ex (Ex.assign rfl) rfl rfl rfl ?_
  refine Ops.nil ?_
  refine Run.seq ?_
  refine Run.seq ?_
  refine Run.region ?_
  refine Ops.ex (Ex.fieldAddr rfl Try.underlying49 rfl sz5) rfl rfl rfl ?_
  refine Ops.load rfl Try.underlying5 rfl (hst15.cell (i := 1) rfl rfl) rfl ?_
  refine Ops.ex (Ex.rem8 (a := p1.Op) (b := 12) rfl rfl (by decide)) rfl rfl rfl ?_
  refine Ops.nil ?_
  refine Run.block ?_
  refine Run.seq ?_
  refine Run.seq ?_
  refine Run.region ?_
  refine Ops.ex (Ex.eql8 (a := (p1.Op % 12)) (b := 0) rfl rfl) rfl rfl rfl ?_
  refine Ops.ex (Ex.assign rfl) rfl rfl rfl ?_
  refine Ops.nil ?_
  have hm18 := Le.refl z15
  apply Run.jn (fun e' w' => ∃ (b20 : Bool) (Ha21 : List Res) (z19 : Zp), go_law04_Do.j1 p0 p1 p2 ar1 y15 b20 = some r ∧ e' = [(0, .pointer (some ⟨g0, 0, none⟩)), (2, .slice A13 p2.length c13), (4, .pointer (some ⟨g14, 0, none⟩)), (7, vs y15), (13, vu8 (p1.Op % 12)), (14, vb b20)] ∧ Le z15 z19 ∧ Le z0 z19 ∧ Ar1 z19 Γ1 ar1 Ha21 ∧ Ht w0 (frz z19 :: (blk g14 [vu8 p1.Op, vu8 p1.Name, vu8 p1.To, .slice A11 p1.Bytes.length c11, vi16 p1.N] 49) :: (blk g0 [.map (some gm1), .map (some gm2), .slice A3 p0.wait_.length c3, vi p0.room_, vi p0.left_, vb p0.down_, vi p0.calls_] 68) :: (ob gm1 (.map E1 c1)) :: (ob gm2 (.map E2 c2)) :: (orow 78 1 (.slice A3 p0.wait_.length c3) p0.wait_.length d3) :: (Ha21 ++ X)) w')
  · intro hj17
    refine Run.cond rfl (fun hc => ?_) (fun hc => ?_)
    · replace hf := ifT (dec_T hc) hf
      refine Run.skip ?_
      exact Run.sub (by exact subB_spec ⟨rfl, rfl, rfl, rfl, rfl, rfl, trivial⟩) (hj17 _ _ ⟨decide (p1.Op % 12 = 0), Ha1, z15, hf, rfl, hm18, hle0, hA1, hst15⟩)
    · replace hf := ifF (dec_F hc) hf
      refine Run.region ?_
      refine Ops.ex (Ex.eql8 (a := (p1.Op % 12)) (b := 1) rfl rfl) rfl rfl rfl ?_
      refine Ops.ex (Ex.assign rfl) rfl rfl rfl ?_
      refine Ops.nil ?_
      exact Run.sub (by exact subB_spec ⟨rfl, rfl, rfl, rfl, rfl, rfl, trivial⟩) (hj17 _ _ ⟨decide (p1.Op % 12 = 1), Ha1, z15, hf, rfl, hm18, hle0, hA1, hst15⟩)
  · rintro e' w22 ⟨b20, Ha21, z19, hf, rfl, hz22, hy22_0, hA21, hst22⟩
    replace f13 := f13.mono hz22; replace f11 := f11.mono hz22; replace f1 := f1.mono hz22; replace f2 := f2.mono hz22; replace f3 := f3.mono hz22
    unfold go_law04_Do.j1 at hf
    refine Run.cond rfl (fun hc => ?_) (fun hc => ?_)
    · replace hf := ifTb hc hf
      refine Run.seq ?_
      refine Run.region ?_
      refine Ops.ex (Ex.move rfl) rfl rfl rfl ?_
      refine Ops.ex (Ex.move rfl) rfl rfl rfl ?_
      obtain ⟨y23, hy23, hf⟩ := bnd hf
      refine Ops.call rfl rfl Try.func13 (by kernel_rfl) (by kernel_rfl) rfl (go_files_Disk_Create.walk (Γ1 := Γ1) (p0 := p0) (p1 := y15) (ar1 := ar1) (hst := (St.mid (B := [blk g0 [.map (some gm1), .map (some gm2), .slice A3 p0.wait_.length c3, vi p0.room_, vi p0.left_, vb p0.down_, vi p0.calls_] 68, ob gm1 (.map E1 c1), ob gm2 (.map E2 c2), orow 78 1 (.slice A3 p0.wait_.length c3) p0.wait_.length d3]) (M := [blk g14 [vu8 p1.Op, vu8 p1.Name, vu8 p1.To, .slice A11 p1.Bytes.length c11, vi16 p1.N] 49]) (Ha := Ha21) (St.up (St.up (St.up (St.up (St.up (St.up hst22 1 rfl) 5 rfl) 5 rfl) 5 rfl) 5 rfl) 5 rfl))) (f1 := f1) (f2 := f2) (f3 := f3) (hA1 := hA21) (Ha1 := Ha21) (hf := hy23)) ?_
      rintro _ w23 ⟨z23, gm25, E25, c25, gm26, E26, c26, A27, c27, d27, Ha32, Γ1, rfl, hz23, f25, f26, f27, hA32, hG1_33, hst23⟩
      replace hst23 : Ht w0 (frz z23 :: (blk g0 [.map (some gm25), .map (some gm26), .slice A27 y23.2.1.wait_.length c27, vi y23.2.1.room_, vi y23.2.1.left_, vb y23.2.1.down_, vi y23.2.1.calls_] 68) :: (ob gm25 (.map E25 c25)) :: (ob gm26 (.map E26 c26)) :: (orow 78 1 (.slice A27 y23.2.1.wait_.length c27) y23.2.1.wait_.length d27) :: (blk g14 [vu8 p1.Op, vu8 p1.Name, vu8 p1.To, .slice A11 p1.Bytes.length c11, vi16 p1.N] 49) :: (Ha32 ++ X)) _ := St.mid (B := [blk g0 [.map (some gm25), .map (some gm26), .slice A27 y23.2.1.wait_.length c27, vi y23.2.1.room_, vi y23.2.1.left_, vb y23.2.1.down_, vi y23.2.1.calls_] 68, ob gm25 (.map E25 c25), ob gm26 (.map E26 c26), orow 78 1 (.slice A27 y23.2.1.wait_.length c27) y23.2.1.wait_.length d27]) (M := Ha32) (Ha := [blk g14 [vu8 p1.Op, vu8 p1.Name, vu8 p1.To, .slice A11 p1.Bytes.length c11, vi16 p1.N] 49]) hst23
      refine ⟨_, rfl, ?_⟩
      replace f13 := f13.mono hz23; replace f11 := f11.mono hz23
      replace hy22_0 := hy22_0.trans hz23
      replace hz22 := hz22.trans hz23
      replace hGi1 := hGi1.trans hG1_33
      refine Ops.ex (Ex.assign rfl) rfl rfl rfl ?_
      refine Ops.nil ?_
      obtain rfl := Option.some.inj hf
      exact Run.retV [vi y23.1] rfl ⟨rfl, trivial⟩ ⟨z23, gm25, E25, c25, gm26, E26, c26, A27, c27, d27, Ha32, Γ1, rfl, hy22_0, f25, f26, f27, hA32, hGi1, (St.forget hst23 5)⟩
    · replace hf := ifFb hc hf
      refine Run.seq ?_
      refine Run.region ?_
      refine Ops.ex (Ex.eql8 (a := (p1.Op % 12)) (b := 3) rfl rfl) rfl rfl rfl ?_
      refine Ops.ex (Ex.assign rfl) rfl rfl rfl ?_
      refine Ops.nil ?_
      refine Run.cond rfl (fun hc => ?_) (fun hc => ?_)
      · replace hf := ifT (dec_T hc) hf
        refine Run.seq ?_
        refine Run.region ?_
        refine Ops.ex (Ex.move rfl) rfl rfl rfl ?_
        refine Ops.ex (Ex.move rfl) rfl rfl rfl ?_
        refine Ops.ex (Ex.fieldAddr rfl Try.underlying49 rfl sz23) rfl rfl rfl ?_
        refine Ops.load rfl Try.underlying23 rfl (hst22.cell (i := 1) rfl rfl) rfl ?_
        refine Ops.ex (Ex.ci16 rfl Try.underlying23 Try.underlying3) rfl rfl rfl ?_
        obtain ⟨y34, hy34, hf⟩ := bnd hf
        refine Ops.call rfl rfl Try.func22 (by kernel_rfl) (by kernel_rfl) rfl (go_files_Disk_Cut.walk (Γ1 := Γ1) (p0 := p0) (p1 := y15) (p2 := p1.N.toInt) (ar1 := ar1) (hst := (St.mid (B := [blk g0 [.map (some gm1), .map (some gm2), .slice A3 p0.wait_.length c3, vi p0.room_, vi p0.left_, vb p0.down_, vi p0.calls_] 68, ob gm1 (.map E1 c1), ob gm2 (.map E2 c2), orow 78 1 (.slice A3 p0.wait_.length c3) p0.wait_.length d3]) (M := [blk g14 [vu8 p1.Op, vu8 p1.Name, vu8 p1.To, .slice A11 p1.Bytes.length c11, vi16 p1.N] 49]) (Ha := Ha21) (St.up (St.up (St.up (St.up (St.up (St.up hst22 1 rfl) 5 rfl) 5 rfl) 5 rfl) 5 rfl) 5 rfl))) (f1 := f1) (f2 := f2) (f3 := f3) (hA1 := hA21) (Ha1 := Ha21) (hf := hy34)) ?_
        rintro _ w34 ⟨z34, gm36, E36, c36, gm37, E37, c37, A38, c38, d38, Ha43, rfl, hz34, f36, f37, f38, hA43, hst34⟩
        replace hst34 : Ht w0 (frz z34 :: (blk g0 [.map (some gm36), .map (some gm37), .slice A38 y34.2.1.wait_.length c38, vi y34.2.1.room_, vi y34.2.1.left_, vb y34.2.1.down_, vi y34.2.1.calls_] 68) :: (ob gm36 (.map E36 c36)) :: (ob gm37 (.map E37 c37)) :: (orow 78 1 (.slice A38 y34.2.1.wait_.length c38) y34.2.1.wait_.length d38) :: (blk g14 [vu8 p1.Op, vu8 p1.Name, vu8 p1.To, .slice A11 p1.Bytes.length c11, vi16 p1.N] 49) :: (Ha43 ++ X)) _ := St.mid (B := [blk g0 [.map (some gm36), .map (some gm37), .slice A38 y34.2.1.wait_.length c38, vi y34.2.1.room_, vi y34.2.1.left_, vb y34.2.1.down_, vi y34.2.1.calls_] 68, ob gm36 (.map E36 c36), ob gm37 (.map E37 c37), orow 78 1 (.slice A38 y34.2.1.wait_.length c38) y34.2.1.wait_.length d38]) (M := Ha43) (Ha := [blk g14 [vu8 p1.Op, vu8 p1.Name, vu8 p1.To, .slice A11 p1.Bytes.length c11, vi16 p1.N] 49]) hst34
        refine ⟨_, rfl, ?_⟩
        replace f13 := f13.mono hz34; replace f11 := f11.mono hz34
        replace hy22_0 := hy22_0.trans hz34
        replace hz22 := hz22.trans hz34
        refine Ops.ex (Ex.assign rfl) rfl rfl rfl ?_
        refine Ops.nil ?_
        obtain rfl := Option.some.inj hf
        exact Run.retV [vi y34.1] rfl ⟨rfl, trivial⟩ ⟨z34, gm36, E36, c36, gm37, E37, c37, A38, c38, d38, Ha43, Γ1, rfl, hy22_0, f36, f37, f38, hA43, hGi1, (St.forget hst34 5)⟩
      · replace hf := ifF (dec_F hc) hf
        refine Run.seq ?_
        refine Run.seq ?_
        refine Run.region ?_
        refine Ops.ex (Ex.eql8 (a := (p1.Op % 12)) (b := 4) rfl rfl) rfl rfl rfl ?_
        refine Ops.ex (Ex.assign rfl) rfl rfl rfl ?_
        refine Ops.nil ?_
        have hm45 := Le.refl z19
        apply Run.jn (fun e' w' => ∃ (b47 : Bool) (Ha48 : List Res) (z46 : Zp), go_law04_Do.j2 p0 p1 p2 ar1 y15 b47 = some r ∧ e' = [(0, .pointer (some ⟨g0, 0, none⟩)), (2, .slice A13 p2.length c13), (4, .pointer (some ⟨g14, 0, none⟩)), (7, vs y15), (13, vu8 (p1.Op % 12)), (28, vb b47)] ∧ Le z19 z46 ∧ Le z0 z46 ∧ Le z15 z46 ∧ Ar1 z46 Γ1 ar1 Ha48 ∧ Ht w0 (frz z46 :: (blk g14 [vu8 p1.Op, vu8 p1.Name, vu8 p1.To, .slice A11 p1.Bytes.length c11, vi16 p1.N] 49) :: (blk g0 [.map (some gm1), .map (some gm2), .slice A3 p0.wait_.length c3, vi p0.room_, vi p0.left_, vb p0.down_, vi p0.calls_] 68) :: (ob gm1 (.map E1 c1)) :: (ob gm2 (.map E2 c2)) :: (orow 78 1 (.slice A3 p0.wait_.length c3) p0.wait_.length d3) :: (Ha48 ++ X)) w')
        · intro hj44
          refine Run.cond rfl (fun hc => ?_) (fun hc => ?_)
          · replace hf := ifT (dec_T hc) hf
            refine Run.skip ?_
            exact Run.sub (by exact subB_spec ⟨rfl, rfl, rfl, rfl, rfl, rfl, trivial⟩) (hj44 _ _ ⟨decide (p1.Op % 12 = 4), Ha21, z19, hf, rfl, hm45, hy22_0, hz22, hA21, hst22⟩)
          · replace hf := ifF (dec_F hc) hf
            refine Run.region ?_
            refine Ops.ex (Ex.eql8 (a := (p1.Op % 12)) (b := 9) rfl rfl) rfl rfl rfl ?_
            refine Ops.ex (Ex.assign rfl) rfl rfl rfl ?_
            refine Ops.nil ?_
            exact Run.sub (by exact subB_spec ⟨rfl, rfl, rfl, rfl, rfl, rfl, trivial⟩) (hj44 _ _ ⟨decide (p1.Op % 12 = 9), Ha21, z19, hf, rfl, hm45, hy22_0, hz22, hA21, hst22⟩)
        · rintro e' w49 ⟨b47, Ha48, z46, hf, rfl, hz49, hy49_0, hy49_1, hA48, hst49⟩
          replace f13 := f13.mono hz49; replace f11 := f11.mono hz49; replace f1 := f1.mono hz49; replace f2 := f2.mono hz49; replace f3 := f3.mono hz49
          unfold go_law04_Do.j2 at hf
          refine Run.cond rfl (fun hc => ?_) (fun hc => ?_)
          · replace hf := ifTb hc hf
            refine Run.seq ?_
            refine Run.region ?_
            refine Ops.ex (Ex.move rfl) rfl rfl rfl ?_
            refine Ops.ex (Ex.move rfl) rfl rfl rfl ?_
            obtain ⟨y50, hy50, hf⟩ := bnd hf
            refine Ops.call rfl rfl Try.func18 (by kernel_rfl) (by kernel_rfl) rfl (go_files_Disk_Sync.walk (Γ1 := Γ1) (p0 := p0) (p1 := y15) (ar1 := ar1) (hst := (St.mid (B := [blk g0 [.map (some gm1), .map (some gm2), .slice A3 p0.wait_.length c3, vi p0.room_, vi p0.left_, vb p0.down_, vi p0.calls_] 68, ob gm1 (.map E1 c1), ob gm2 (.map E2 c2), orow 78 1 (.slice A3 p0.wait_.length c3) p0.wait_.length d3]) (M := [blk g14 [vu8 p1.Op, vu8 p1.Name, vu8 p1.To, .slice A11 p1.Bytes.length c11, vi16 p1.N] 49]) (Ha := Ha48) (St.up (St.up (St.up (St.up (St.up (St.up hst49 1 rfl) 5 rfl) 5 rfl) 5 rfl) 5 rfl) 5 rfl))) (f1 := f1) (f2 := f2) (f3 := f3) (hA1 := hA48) (Ha1 := Ha48) (hf := hy50)) ?_
            rintro _ w50 ⟨z50, gm52, E52, c52, gm53, E53, c53, A54, c54, d54, Ha59, rfl, hz50, f52, f53, f54, hA59, hst50⟩
            replace hst50 : Ht w0 (frz z50 :: (blk g0 [.map (some gm52), .map (some gm53), .slice A54 y50.2.1.wait_.length c54, vi y50.2.1.room_, vi y50.2.1.left_, vb y50.2.1.down_, vi y50.2.1.calls_] 68) :: (ob gm52 (.map E52 c52)) :: (ob gm53 (.map E53 c53)) :: (orow 78 1 (.slice A54 y50.2.1.wait_.length c54) y50.2.1.wait_.length d54) :: (blk g14 [vu8 p1.Op, vu8 p1.Name, vu8 p1.To, .slice A11 p1.Bytes.length c11, vi16 p1.N] 49) :: (Ha59 ++ X)) _ := St.mid (B := [blk g0 [.map (some gm52), .map (some gm53), .slice A54 y50.2.1.wait_.length c54, vi y50.2.1.room_, vi y50.2.1.left_, vb y50.2.1.down_, vi y50.2.1.calls_] 68, ob gm52 (.map E52 c52), ob gm53 (.map E53 c53), orow 78 1 (.slice A54 y50.2.1.wait_.length c54) y50.2.1.wait_.length d54]) (M := Ha59) (Ha := [blk g14 [vu8 p1.Op, vu8 p1.Name, vu8 p1.To, .slice A11 p1.Bytes.length c11, vi16 p1.N] 49]) hst50
            refine ⟨_, rfl, ?_⟩
            replace f13 := f13.mono hz50; replace f11 := f11.mono hz50
            replace hy49_0 := hy49_0.trans hz50
            replace hy49_1 := hy49_1.trans hz50
            replace hz49 := hz49.trans hz50
            refine Ops.ex (Ex.assign rfl) rfl rfl rfl ?_
            refine Ops.nil ?_
            obtain rfl := Option.some.inj hf
            exact Run.retV [vi y50.1] rfl ⟨rfl, trivial⟩ ⟨z50, gm52, E52, c52, gm53, E53, c53, A54, c54, d54, Ha59, Γ1, rfl, hy49_0, f52, f53, f54, hA59, hGi1, (St.forget hst50 5)⟩
          · replace hf := ifFb hc hf
            refine Run.seq ?_
            refine Run.region ?_
            refine Ops.ex (Ex.eql8 (a := (p1.Op % 12)) (b := 5) rfl rfl) rfl rfl rfl ?_
            refine Ops.ex (Ex.assign rfl) rfl rfl rfl ?_
            refine Ops.nil ?_
            refine Run.cond rfl (fun hc => ?_) (fun hc => ?_)
            · replace hf := ifT (dec_T hc) hf
              refine Run.seq ?_
              refine Run.region ?_
              refine Ops.ex (Ex.move rfl) rfl rfl rfl ?_
              obtain ⟨y60, hy60, hf⟩ := bnd hf
              refine Ops.call rfl rfl Try.func19 (by kernel_rfl) (by kernel_rfl) rfl (go_files_Disk_SyncDir.walk (Γ1 := Γ1) (p0 := p0) (hst := (St.up (St.up (St.up (St.up (St.up (St.up hst49 1 rfl) 5 rfl) 5 rfl) 5 rfl) 5 rfl) 5 rfl)) (f1 := f1) (f2 := f2) (f3 := f3) (hf := hy60)) ?_
              rintro _ w60 ⟨z60, gm62, E62, c62, gm63, E63, c63, A64, c64, d64, rfl, hz60, f62, f63, f64, hst60⟩
              refine ⟨_, rfl, ?_⟩
              replace f13 := f13.mono hz60; replace f11 := f11.mono hz60; replace hA48 := hA48.mono hz60
              replace hy49_0 := hy49_0.trans hz60
              replace hy49_1 := hy49_1.trans hz60
              replace hz49 := hz49.trans hz60
              refine Ops.ex (Ex.assign rfl) rfl rfl rfl ?_
              refine Ops.nil ?_
              obtain rfl := Option.some.inj hf
              exact Run.retV [vi y60.1] rfl ⟨rfl, trivial⟩ ⟨z60, gm62, E62, c62, gm63, E63, c63, A64, c64, d64, Ha48, Γ1, rfl, hy49_0, f62, f63, f64, hA48, hGi1, (St.forget hst60 5)⟩
            · replace hf := ifF (dec_F hc) hf
              refine Run.seq ?_
              refine Run.region ?_
              refine Ops.ex (Ex.eql8 (a := (p1.Op % 12)) (b := 6) rfl rfl) rfl rfl rfl ?_
              refine Ops.ex (Ex.assign rfl) rfl rfl rfl ?_
              refine Ops.nil ?_
              refine Run.cond rfl (fun hc => ?_) (fun hc => ?_)
              · replace hf := ifT (dec_T hc) hf
                refine Run.seq ?_
                refine Run.region ?_
                refine Ops.ex (Ex.move rfl) rfl rfl rfl ?_
                refine Ops.ex (Ex.move rfl) rfl rfl rfl ?_
                refine Ops.ex (Ex.fieldAddr rfl Try.underlying49 rfl sz5) rfl rfl rfl ?_
                refine Ops.load rfl Try.underlying5 rfl (hst49.cell (i := 1) rfl rfl) rfl ?_
                obtain ⟨y69, hy69, hf⟩ := bnd hf
                refine Ops.call rfl rfl Try.func41 (by kernel_rfl) (by kernel_rfl) rfl (go_law04_name.walk (p0 := p1.To) (hst := hst49) (hf := hy69)) ?_
                rintro _ w69 ⟨z69, rfl, hz69, hst69⟩
                refine ⟨_, rfl, ?_⟩
                replace f13 := f13.mono hz69; replace f11 := f11.mono hz69; replace f1 := f1.mono hz69; replace f2 := f2.mono hz69; replace f3 := f3.mono hz69; replace hA48 := hA48.mono hz69
                replace hy49_0 := hy49_0.trans hz69
                replace hy49_1 := hy49_1.trans hz69
                replace hz49 := hz49.trans hz69
                obtain ⟨y71, hy71, hf⟩ := bnd hf
                refine Ops.call rfl rfl Try.func28 (by kernel_rfl) (by kernel_rfl) rfl (go_files_Disk_Rename.walk (Γ1 := Γ1) (p0 := p0) (p1 := y15) (p2 := y69) (hst := (St.up (St.up (St.up (St.up (St.up (St.up hst69 1 rfl) 5 rfl) 5 rfl) 5 rfl) 5 rfl) 5 rfl)) (f1 := f1) (f2 := f2) (f3 := f3) (hf := hy71)) ?_
                rintro _ w71 ⟨z71, gm73, E73, c73, gm74, E74, c74, A75, c75, d75, rfl, hz71, f73, f74, f75, hst71⟩
                refine ⟨_, rfl, ?_⟩
                replace f13 := f13.mono hz71; replace f11 := f11.mono hz71; replace hA48 := hA48.mono hz71
                replace hy49_0 := hy49_0.trans hz71
                replace hy49_1 := hy49_1.trans hz71
                replace hz49 := hz49.trans hz71
                refine Ops.ex (Ex.assign rfl) rfl rfl rfl ?_
                refine Ops.nil ?_
                obtain rfl := Option.some.inj hf
                exact Run.retV [vi y71.1] rfl ⟨rfl, trivial⟩ ⟨z71, gm73, E73, c73, gm74, E74, c74, A75, c75, d75, Ha48, Γ1, rfl, hy49_0, f73, f74, f75, hA48, hGi1, (St.forget hst71 5)⟩
              · replace hf := ifF (dec_F hc) hf
                refine Run.seq ?_
                refine Run.seq ?_
                refine Run.region ?_
                refine Ops.ex (Ex.eql8 (a := (p1.Op % 12)) (b := 10) rfl rfl) rfl rfl rfl ?_
                refine Ops.ex (Ex.assign rfl) rfl rfl rfl ?_
                refine Ops.nil ?_
                have hm81 := Le.refl z46
                apply Run.jn (fun e' w' => ∃ (b83 : Bool) (Ha84 : List Res) (z82 : Zp), go_law04_Do.j3 p0 p2 ar1 y15 b83 = some r ∧ e' = [(0, .pointer (some ⟨g0, 0, none⟩)), (2, .slice A13 p2.length c13), (7, vs y15), (46, vb b83)] ∧ Le z46 z82 ∧ Le z0 z82 ∧ Le z15 z82 ∧ Le z19 z82 ∧ Ar1 z82 Γ1 ar1 Ha84 ∧ Ht w0 (frz z82 :: (blk g0 [.map (some gm1), .map (some gm2), .slice A3 p0.wait_.length c3, vi p0.room_, vi p0.left_, vb p0.down_, vi p0.calls_] 68) :: (ob gm1 (.map E1 c1)) :: (ob gm2 (.map E2 c2)) :: (orow 78 1 (.slice A3 p0.wait_.length c3) p0.wait_.length d3) :: (Ha84 ++ X)) w')
                · intro hj80
                  refine Run.cond rfl (fun hc => ?_) (fun hc => ?_)
                  · replace hf := ifT (dec_T hc) hf
                    refine Run.skip ?_
                    exact Run.sub (by exact subB_spec ⟨rfl, rfl, rfl, rfl, trivial⟩) (hj80 _ _ ⟨decide (p1.Op % 12 = 10), Ha48, z46, hf, rfl, hm81, hy49_0, hy49_1, hz49, hA48, (St.forget hst49 1)⟩)
                  · replace hf := ifF (dec_F hc) hf
                    refine Run.region ?_
                    refine Ops.ex (Ex.eql8 (a := (p1.Op % 12)) (b := 11) rfl rfl) rfl rfl rfl ?_
                    refine Ops.ex (Ex.assign rfl) rfl rfl rfl ?_
                    refine Ops.nil ?_
                    exact Run.sub (by exact subB_spec ⟨rfl, rfl, rfl, rfl, trivial⟩) (hj80 _ _ ⟨decide (p1.Op % 12 = 11), Ha48, z46, hf, rfl, hm81, hy49_0, hy49_1, hz49, hA48, (St.forget hst49 1)⟩)
                · rintro e' w85 ⟨b83, Ha84, z82, hf, rfl, hz85, hy85_0, hy85_1, hy85_2, hA84, hst85⟩
                  replace f13 := f13.mono hz85; replace f1 := f1.mono hz85; replace f2 := f2.mono hz85; replace f3 := f3.mono hz85
                  unfold go_law04_Do.j3 at hf
                  refine Run.cond rfl (fun hc => ?_) (fun hc => ?_)
                  · replace hf := ifTb hc hf
                    refine Run.seq ?_
                    refine Run.region ?_
                    refine Ops.ex (Ex.move rfl) rfl rfl rfl ?_
                    refine Ops.ex (Ex.move rfl) rfl rfl rfl ?_
                    obtain ⟨y86, hy86, hf⟩ := bnd hf
                    refine Ops.call rfl rfl Try.func42 (by kernel_rfl) (by kernel_rfl) rfl (go_files_Disk_Remove.walk (Γ1 := Γ1) (p0 := p0) (p1 := y15) (hst := hst85) (f1 := f1) (f2 := f2) (f3 := f3) (hf := hy86)) ?_
                    rintro _ w86 ⟨z86, gm88, E88, c88, gm89, E89, c89, A90, c90, d90, rfl, hz86, f88, f89, f90, hst86⟩
                    refine ⟨_, rfl, ?_⟩
                    replace f13 := f13.mono hz86; replace hA84 := hA84.mono hz86
                    replace hy85_0 := hy85_0.trans hz86
                    replace hy85_1 := hy85_1.trans hz86
                    replace hy85_2 := hy85_2.trans hz86
                    replace hz85 := hz85.trans hz86
                    refine Ops.ex (Ex.assign rfl) rfl rfl rfl ?_
                    refine Ops.nil ?_
                    obtain rfl := Option.some.inj hf
                    exact Run.retV [vi y86.1] rfl ⟨rfl, trivial⟩ ⟨z86, gm88, E88, c88, gm89, E89, c89, A90, c90, d90, Ha84, Γ1, rfl, hy85_0, f88, f89, f90, hA84, hGi1, hst86⟩
                  · replace hf := ifFb hc hf
                    refine Run.skip ?_
                    refine Run.endBlk ?_
                    refine Run.seq ?_
                    refine Run.region ?_
                    refine Ops.ex (Ex.move rfl) rfl rfl rfl ?_
                    refine Ops.ex (Ex.move rfl) rfl rfl rfl ?_
                    refine Ops.ex (Ex.move rfl) rfl rfl rfl ?_
                    obtain ⟨y95, hy95, hf⟩ := bnd hf
                    refine Ops.call rfl rfl Try.func14 (by kernel_rfl) (by kernel_rfl) rfl (go_files_Disk_Append.walk (Γ1 := Γ1) (p0 := p0) (p1 := y15) (p2 := p2) (ar1 := ar1) (hst := hst85) (f1 := f1) (f2 := f2) (f3 := f3) (f9 := f13) (hA1 := hA84) (Ha1 := Ha84) (hf := hy95)) ?_
                    rintro _ w95 ⟨z95, gm97, E97, c97, gm98, E98, c98, A99, c99, d99, Ha104, rfl, hz95, f97, f98, f99, hA104, hst95⟩
                    replace hst95 : Ht w0 (frz z95 :: (blk g0 [.map (some gm97), .map (some gm98), .slice A99 y95.2.1.wait_.length c99, vi y95.2.1.room_, vi y95.2.1.left_, vb y95.2.1.down_, vi y95.2.1.calls_] 68) :: (ob gm97 (.map E97 c97)) :: (ob gm98 (.map E98 c98)) :: (orow 78 1 (.slice A99 y95.2.1.wait_.length c99) y95.2.1.wait_.length d99) :: (Ha104 ++ X)) _ := hst95
                    refine ⟨_, rfl, ?_⟩
                    replace f13 := f13.mono hz95
                    replace hy85_0 := hy85_0.trans hz95
                    replace hy85_1 := hy85_1.trans hz95
                    replace hy85_2 := hy85_2.trans hz95
                    replace hz85 := hz85.trans hz95
                    refine Ops.ex (Ex.assign rfl) rfl rfl rfl ?_
                    refine Ops.nil ?_
                    obtain rfl := Option.some.inj hf
                    exact Run.retV [vi y95.1] rfl ⟨rfl, trivial⟩ ⟨z95, gm97, E97, c97, gm98, E98, c98, A99, c99, d99, Ha104, Γ1, rfl, hy85_0, f97, f98, f99, hA104, hGi1, hst95⟩
def go_law04_awake : Option Bool :=
  (go_files_Of 100).bind fun y1 => (go_files_Disk_Create y1 [120] ([] : List filesfile)).bind fun y11 => (go_files_Disk_Append y11.2.1 [120] [97, 98, 99] y11.2.2).bind fun y24 => (go_files_Disk_SyncDir y24.2.1).bind fun y34 => (go_files_Disk_Restart y34.2 0 2 y24.2.2).bind fun y43 => (go_files_Disk_Read y43.1 [120] y43.2).bind fun y52 => if y11.1 = 0 then (if y24.1 = 0 then (if y34.1 = 0 then (if y52.2.1 = 0 then (if y52.1 = [97, 98] then ((go_files_Disk_Calls y43.1).bind fun y56 => some (decide (y56 = 3))) else (some false)) else (some false)) else (some false)) else (some false)) else (some false)
set_option maxRecDepth 100000 in
set_option maxHeartbeats 4000000 in
theorem go_law04_awake.walk {w0 w : World} {X : List Res} {z0 : Zp}  {r : Bool} (hst : Ht w0 (frz z0 :: X) w) (hf : go_law04_awake = some r) :
    Calls Try.prog 11 #[] w fun e w' => ∃ (z' : Zp), e = .returned (vb r) ∧ Le z0 z' ∧ Ht w0 (frz z' :: X) w' := by
  refine calls_np Try.func11 rfl rfl ?_
  have hle0 := Le.refl z0
  unfold go_law04_awake at hf
  refine Run.seq ?_
  refine Run.region ?_
  refine Ops.ex (Ex.assign rfl) rfl rfl rfl ?_
  refine Ops.nil ?_
  refine Run.seq ?_
  refine Run.region ?_
  obtain ⟨Γ1, hΓ2⟩ : ∃ L : List Nat, L = [] := ⟨_, rfl⟩
  have hA2 : Ar1 z0 Γ1 [] [] := ArL.nil _ _ hΓ2
  have hp2 := List.prefix_rfl (l := Γ1)
  have hst2 : Ht w0 (frz z0 :: ([] ++ X)) _ := hst
  obtain ⟨y1, hy1, hf⟩ := bnd hf
  refine Ops.call rfl rfl Try.func12 (by kernel_rfl) (by kernel_rfl) rfl (go_files_Of.walk (Γ1 := Γ1) (p0 := 100) (hst := hst2) (hf := hy1)) ?_
  rintro _ w1 ⟨z1, g3, gm4, E4, c4, gm5, E5, c5, A6, c6, d6, rfl, hz1, f4, f5, f6, hst1⟩
  refine ⟨_, rfl, ?_⟩
  replace hA2 := hA2.mono hz1
  replace hle0 := hle0.trans hz1
  refine Ops.ex (Ex.assign rfl) rfl rfl rfl ?_
  refine Ops.nil ?_
  refine Run.seq ?_
  refine Run.seq ?_
  refine Run.region ?_
  refine Ops.ex (Ex.move rfl) rfl rfl rfl ?_
  refine Ops.ex (Ex.eqlN rfl rfl Try.underlying25) rfl rfl rfl ?_
  refine Ops.nil ?_
  refine Run.condF rfl rfl ?_
  refine Run.skip ?_
  refine Run.seq ?_
  refine Run.region ?_
  refine Ops.ex (Ex.move rfl) rfl rfl rfl ?_
  obtain ⟨y11, hy11, hf⟩ := bnd hf
  refine Ops.call rfl rfl Try.func13 (by kernel_rfl) (by kernel_rfl) rfl (go_files_Disk_Create.walk (Γ1 := Γ1) (p0 := y1) (p1 := [120]) (ar1 := ([] : List filesfile)) (hst := hst1) (f1 := f4) (f2 := f5) (f3 := f6) (hA1 := hA2) (Ha1 := []) (hf := hy11)) ?_
  rintro _ w11 ⟨z11, gm13, E13, c13, gm14, E14, c14, A15, c15, d15, Ha20, Γ1, rfl, hz11, f13, f14, f15, hA20, hG1_21, hst11⟩
  replace hst11 : Ht w0 (frz z11 :: (blk g3 [.map (some gm13), .map (some gm14), .slice A15 y11.2.1.wait_.length c15, vi y11.2.1.room_, vi y11.2.1.left_, vb y11.2.1.down_, vi y11.2.1.calls_] 68) :: (ob gm13 (.map E13 c13)) :: (ob gm14 (.map E14 c14)) :: (orow 78 1 (.slice A15 y11.2.1.wait_.length c15) y11.2.1.wait_.length d15) :: (Ha20 ++ X)) _ := hst11
  refine ⟨_, rfl, ?_⟩
  replace hle0 := hle0.trans hz11
  replace hp2 := hp2.trans hG1_21
  refine Ops.ex (Ex.move rfl) rfl rfl rfl ?_
  refine Ops.sliceF [vu8 97, vu8 98, vu8 99] hst11 rfl Try.underlying22 sz5 zr5 rfl rfl (by kernel_rfl) rfl (by simp [Value.oneCell']) rfl (fun A22 w22 hst22 => ?_)
  have f22 : Cs tU8 z11 [vu8 97, vu8 98, vu8 99] [97, 98, 99] := (Cs.cons (c := [vu8 97]) rfl (Cs.cons (c := [vu8 98]) rfl (Cs.cons (c := [vu8 99]) rfl (Cs.nil _ _))))
  refine Ops.convC 0 hst22 rfl f22 rfl (by simp) rfl Try.underlying22 Try.underlying5 rfl (fun z23 w23 hz23 f23 hst23 => ?_)
  replace f13 := f13.mono hz23; replace f14 := f14.mono hz23; replace f15 := f15.mono hz23; replace hA20 := hA20.mono hz23
  replace hle0 := hle0.trans hz23
  obtain ⟨y24, hy24, hf⟩ := bnd hf
  refine Ops.call rfl rfl Try.func14 (by kernel_rfl) (by kernel_rfl) rfl (go_files_Disk_Append.walk (Γ1 := Γ1) (p0 := y11.2.1) (p1 := [120]) (p2 := [97, 98, 99]) (ar1 := y11.2.2) (hst := hst23) (f1 := f13) (f2 := f14) (f3 := f15) (f9 := f23) (hA1 := hA20) (Ha1 := Ha20) (hf := hy24)) ?_
  rintro _ w24 ⟨z24, gm26, E26, c26, gm27, E27, c27, A28, c28, d28, Ha33, rfl, hz24, f26, f27, f28, hA33, hst24⟩
  replace hst24 : Ht w0 (frz z24 :: (blk g3 [.map (some gm26), .map (some gm27), .slice A28 y24.2.1.wait_.length c28, vi y24.2.1.room_, vi y24.2.1.left_, vb y24.2.1.down_, vi y24.2.1.calls_] 68) :: (ob gm26 (.map E26 c26)) :: (ob gm27 (.map E27 c27)) :: (orow 78 1 (.slice A28 y24.2.1.wait_.length c28) y24.2.1.wait_.length d28) :: (Ha33 ++ X)) _ := hst24
  refine ⟨_, rfl, ?_⟩
  replace f23 := f23.mono hz24
  replace hle0 := hle0.trans hz24
  refine Ops.ex (Ex.move rfl) rfl rfl rfl ?_
  obtain ⟨y34, hy34, hf⟩ := bnd hf
  refine Ops.call rfl rfl Try.func19 (by kernel_rfl) (by kernel_rfl) rfl (go_files_Disk_SyncDir.walk (Γ1 := Γ1) (p0 := y24.2.1) (hst := hst24) (f1 := f26) (f2 := f27) (f3 := f28) (hf := hy34)) ?_
  rintro _ w34 ⟨z34, gm36, E36, c36, gm37, E37, c37, A38, c38, d38, rfl, hz34, f36, f37, f38, hst34⟩
  refine ⟨_, rfl, ?_⟩
  replace f23 := f23.mono hz34; replace hA33 := hA33.mono hz34
  replace hle0 := hle0.trans hz34
  refine Ops.ex (Ex.assign rfl) rfl rfl rfl ?_
  refine Ops.ex (Ex.assign rfl) rfl rfl rfl ?_
  refine Ops.ex (Ex.assign rfl) rfl rfl rfl ?_
  refine Ops.nil ?_
  refine Run.seq ?_
  refine Run.region ?_
  refine Ops.ex (Ex.move rfl) rfl rfl rfl ?_
  obtain ⟨y43, hy43, hf⟩ := bnd hf
  refine Ops.call rfl rfl Try.func20 (by kernel_rfl) (by kernel_rfl) rfl (go_files_Disk_Restart.walk (Γ1 := Γ1) (p0 := y34.2) (p1 := 0) (p2 := 2) (ar1 := y24.2.2) (hst := hst34) (f1 := f36) (f2 := f37) (f3 := f38) (hA1 := hA33) (Ha1 := Ha33) (hf := hy43)) ?_
  rintro _ w43 ⟨z43, gm44, E44, c44, gm45, E45, c45, A46, c46, d46, Ha51, rfl, hz43, f44, f45, f46, hA51, hst43⟩
  replace hst43 : Ht w0 (frz z43 :: (blk g3 [.map (some gm44), .map (some gm45), .slice A46 y43.1.wait_.length c46, vi y43.1.room_, vi y43.1.left_, vb y43.1.down_, vi y43.1.calls_] 68) :: (ob gm44 (.map E44 c44)) :: (ob gm45 (.map E45 c45)) :: (orow 78 1 (.slice A46 y43.1.wait_.length c46) y43.1.wait_.length d46) :: (Ha51 ++ X)) _ := hst43
  refine ⟨_, rfl, ?_⟩
  replace f23 := f23.mono hz43
  replace hle0 := hle0.trans hz43
  refine Ops.nil ?_
  refine Run.seq ?_
  refine Run.region ?_
  refine Ops.ex (Ex.move rfl) rfl rfl rfl ?_
  obtain ⟨y52, hy52, hf⟩ := bnd hf
  refine Ops.call rfl rfl Try.func16 (by kernel_rfl) (by kernel_rfl) rfl (go_files_Disk_Read.walk (Γ1 := Γ1) (p0 := y43.1) (p1 := [120]) (ar1 := y43.2) (hst := hst43) (f1 := f44) (f2 := f45) (f3 := f46) (hA1 := hA51) (Ha1 := Ha51) (hf := hy52)) ?_
  rintro _ w52 ⟨z52, A53, c53, d53, Ha55, rfl, hz52, f53, hA55, hst52⟩
  replace hst52 : Ht w0 (frz z52 :: (blk g3 [.map (some gm44), .map (some gm45), .slice A46 y43.1.wait_.length c46, vi y43.1.room_, vi y43.1.left_, vb y43.1.down_, vi y43.1.calls_] 68) :: (ob gm44 (.map E44 c44)) :: (ob gm45 (.map E45 c45)) :: (orow 78 1 (.slice A46 y43.1.wait_.length c46) y43.1.wait_.length d46) :: (orow 5 1 (.slice A53 y52.1.length c53) y52.1.length d53) :: (Ha55 ++ X)) _ := hst52
  refine ⟨_, rfl, ?_⟩
  replace f23 := f23.mono hz52; replace f44 := f44.mono hz52; replace f45 := f45.mono hz52; replace f46 := f46.mono hz52
  replace hle0 := hle0.trans hz52
  refine Ops.ex (Ex.move rfl) rfl rfl rfl ?_
  refine Ops.ex (Ex.extract rfl rfl) rfl rfl rfl ?_
  refine Ops.ex (Ex.extract rfl rfl) rfl rfl rfl ?_
  refine Ops.ex (Ex.assign rfl) rfl rfl rfl ?_
  refine Ops.ex (Ex.assign rfl) rfl rfl rfl ?_
  refine Ops.nil ?_
  refine Run.seq ?_
  refine Run.region ?_
  refine Ops.ex (Ex.move rfl) rfl rfl rfl ?_
  refine Ops.ex (Ex.eqlI rfl rfl) rfl rfl rfl ?_
  refine Ops.ex (Ex.move rfl) rfl rfl rfl ?_
  refine Ops.case 27 rfl (fun hc => ?_) (fun hc => ?_)
  · replace hf := ifT (dec_T hc) hf
    refine Ops.on rfl ?_
    refine Ops.ex (Ex.move rfl) rfl rfl rfl ?_
    refine Ops.on rfl ?_
    refine Ops.ex (Ex.eqlI rfl rfl) rfl rfl rfl ?_
    refine Ops.ex (Ex.pickT rfl rfl) rfl rfl rfl ?_
    refine Ops.ex (Ex.move rfl) rfl rfl rfl ?_
    refine Ops.case 31 rfl (fun hc => ?_) (fun hc => ?_)
    · replace hf := ifT (dec_T hc) hf
      refine Ops.on rfl ?_
      refine Ops.ex (Ex.move rfl) rfl rfl rfl ?_
      refine Ops.on rfl ?_
      refine Ops.ex (Ex.eqlI rfl rfl) rfl rfl rfl ?_
      refine Ops.ex (Ex.pickT rfl rfl) rfl rfl rfl ?_
      refine Ops.ex (Ex.move rfl) rfl rfl rfl ?_
      refine Ops.case 35 rfl (fun hc => ?_) (fun hc => ?_)
      · replace hf := ifT (dec_T hc) hf
        refine Ops.on rfl ?_
        refine Ops.ex (Ex.move rfl) rfl rfl rfl ?_
        refine Ops.on rfl ?_
        refine Ops.ex (Ex.eqlI rfl rfl) rfl rfl rfl ?_
        refine Ops.ex (Ex.pickT rfl rfl) rfl rfl rfl ?_
        refine Ops.ex (Ex.move rfl) rfl rfl rfl ?_
        refine Ops.case 39 rfl (fun hc => ?_) (fun hc => ?_)
        · replace hf := ifT (dec_T hc) hf
          refine Ops.on rfl ?_
          refine Ops.ex (Ex.move rfl) rfl rfl rfl ?_
          refine Ops.on rfl ?_
          refine Ops.str8 (own_slh f53 rfl (hst52.get (i := 5) rfl)) rfl Try.underlying22 Try.underlying5 Try.underlying9 rfl (?_)
          refine Ops.on rfl ?_
          refine Ops.ex (Ex.eqlT (t := [97, 98]) rfl rfl) rfl rfl rfl ?_
          refine Ops.ex (Ex.pickT rfl rfl) rfl rfl rfl ?_
          refine Ops.ex (Ex.move rfl) rfl rfl rfl ?_
          refine Ops.case 44 rfl (fun hc => ?_) (fun hc => ?_)
          · replace hf := ifT (dec_T hc) hf
            refine Ops.on rfl ?_
            refine Ops.ex (Ex.move rfl) rfl rfl rfl ?_
            refine Ops.on rfl ?_
            obtain ⟨y56, hy56, hf⟩ := bnd hf
            refine Ops.call rfl rfl Try.func17 (by kernel_rfl) (by kernel_rfl) rfl (go_files_Disk_Calls.walk (Γ1 := Γ1) (p0 := y43.1) (hst := hst52) (f1 := f44) (f2 := f45) (f3 := f46) (hf := hy56)) ?_
            rintro _ w56 ⟨z56, rfl, hz56, hst56⟩
            refine ⟨_, rfl, ?_⟩
            replace f23 := f23.mono hz56; replace f44 := f44.mono hz56; replace f45 := f45.mono hz56; replace f46 := f46.mono hz56; replace f53 := f53.mono hz56; replace hA55 := hA55.mono hz56
            replace hle0 := hle0.trans hz56
            refine Ops.on rfl ?_
            refine Ops.ex (Ex.eqlI rfl rfl) rfl rfl rfl ?_
            refine Ops.ex (Ex.pickT rfl rfl) rfl rfl rfl ?_
            refine Ops.ex (Ex.assign rfl) rfl rfl rfl ?_
            refine Ops.nil ?_
            obtain rfl := Option.some.inj hf
            exact Run.retV [vb (decide (y56 = 3))] rfl ⟨rfl, trivial⟩ ⟨z56, rfl, hle0, (St.forgetT (St.forget (St.forget (St.forget (St.forget (St.forget hst56 5) 4) 3) 2) 1))⟩
          · replace hf := ifF (dec_F hc) hf
            refine Ops.off rfl rfl ?_
            refine Ops.off rfl rfl ?_
            refine Ops.off rfl rfl ?_
            refine Ops.ex (Ex.pickF rfl rfl) rfl rfl rfl ?_
            refine Ops.ex (Ex.assign rfl) rfl rfl rfl ?_
            refine Ops.nil ?_
            obtain rfl := Option.some.inj hf
            exact Run.retV [vb false] rfl ⟨rfl, trivial⟩ ⟨z52, rfl, hle0, (St.forgetT (St.forget (St.forget (St.forget (St.forget (St.forget hst52 5) 4) 3) 2) 1))⟩
        · replace hf := ifF (dec_F hc) hf
          refine Ops.off rfl rfl ?_
          refine Ops.off rfl rfl ?_
          refine Ops.off rfl rfl ?_
          refine Ops.ex (Ex.pickF rfl rfl) rfl rfl rfl ?_
          refine Ops.ex (Ex.move rfl) rfl rfl rfl ?_
          refine Ops.off rfl rfl ?_
          refine Ops.off rfl rfl ?_
          refine Ops.off rfl rfl ?_
          refine Ops.ex (Ex.pickF rfl rfl) rfl rfl rfl ?_
          refine Ops.ex (Ex.assign rfl) rfl rfl rfl ?_
          refine Ops.nil ?_
          obtain rfl := Option.some.inj hf
          exact Run.retV [vb false] rfl ⟨rfl, trivial⟩ ⟨z52, rfl, hle0, (St.forgetT (St.forget (St.forget (St.forget (St.forget (St.forget hst52 5) 4) 3) 2) 1))⟩
      · replace hf := ifF (dec_F hc) hf
        refine Ops.off rfl rfl ?_
        refine Ops.off rfl rfl ?_
        refine Ops.ex (Ex.pickF rfl rfl) rfl rfl rfl ?_
        refine Ops.ex (Ex.move rfl) rfl rfl rfl ?_
        refine Ops.off rfl rfl ?_
        refine Ops.off rfl rfl ?_
        refine Ops.off rfl rfl ?_
        refine Ops.ex (Ex.pickF rfl rfl) rfl rfl rfl ?_
        refine Ops.ex (Ex.move rfl) rfl rfl rfl ?_
        refine Ops.off rfl rfl ?_
        refine Ops.off rfl rfl ?_
        refine Ops.off rfl rfl ?_
        refine Ops.ex (Ex.pickF rfl rfl) rfl rfl rfl ?_
        refine Ops.ex (Ex.assign rfl) rfl rfl rfl ?_
        refine Ops.nil ?_
        obtain rfl := Option.some.inj hf
        exact Run.retV [vb false] rfl ⟨rfl, trivial⟩ ⟨z52, rfl, hle0, (St.forgetT (St.forget (St.forget (St.forget (St.forget (St.forget hst52 5) 4) 3) 2) 1))⟩
    · replace hf := ifF (dec_F hc) hf
      refine Ops.off rfl rfl ?_
      refine Ops.off rfl rfl ?_
      refine Ops.ex (Ex.pickF rfl rfl) rfl rfl rfl ?_
      refine Ops.ex (Ex.move rfl) rfl rfl rfl ?_
      refine Ops.off rfl rfl ?_
      refine Ops.off rfl rfl ?_
      refine Ops.ex (Ex.pickF rfl rfl) rfl rfl rfl ?_
      refine Ops.ex (Ex.move rfl) rfl rfl rfl ?_
      refine Ops.off rfl rfl ?_
      refine Ops.off rfl rfl ?_
      refine Ops.off rfl rfl ?_
      refine Ops.ex (Ex.pickF rfl rfl) rfl rfl rfl ?_
      refine Ops.ex (Ex.move rfl) rfl rfl rfl ?_
      refine Ops.off rfl rfl ?_
      refine Ops.off rfl rfl ?_
      refine Ops.off rfl rfl ?_
      refine Ops.ex (Ex.pickF rfl rfl) rfl rfl rfl ?_
      refine Ops.ex (Ex.assign rfl) rfl rfl rfl ?_
      refine Ops.nil ?_
      obtain rfl := Option.some.inj hf
      exact Run.retV [vb false] rfl ⟨rfl, trivial⟩ ⟨z52, rfl, hle0, (St.forgetT (St.forget (St.forget (St.forget (St.forget (St.forget hst52 5) 4) 3) 2) 1))⟩
  · replace hf := ifF (dec_F hc) hf
    refine Ops.off rfl rfl ?_
    refine Ops.off rfl rfl ?_
    refine Ops.ex (Ex.pickF rfl rfl) rfl rfl rfl ?_
    refine Ops.ex (Ex.move rfl) rfl rfl rfl ?_
    refine Ops.off rfl rfl ?_
    refine Ops.off rfl rfl ?_
    refine Ops.ex (Ex.pickF rfl rfl) rfl rfl rfl ?_
    refine Ops.ex (Ex.move rfl) rfl rfl rfl ?_
    refine Ops.off rfl rfl ?_
    refine Ops.off rfl rfl ?_
    refine Ops.ex (Ex.pickF rfl rfl) rfl rfl rfl ?_
    refine Ops.ex (Ex.move rfl) rfl rfl rfl ?_
    refine Ops.off rfl rfl ?_
    refine Ops.off rfl rfl ?_
    refine Ops.off rfl rfl ?_
    refine Ops.ex (Ex.pickF rfl rfl) rfl rfl rfl ?_
    refine Ops.ex (Ex.move rfl) rfl rfl rfl ?_
    refine Ops.off rfl rfl ?_
    refine Ops.off rfl rfl ?_
    refine Ops.off rfl rfl ?_
    refine Ops.ex (Ex.pickF rfl rfl) rfl rfl rfl ?_
    refine Ops.ex (Ex.assign rfl) rfl rfl rfl ?_
    refine Ops.nil ?_
    obtain rfl := Option.some.inj hf
    exact Run.retV [vb false] rfl ⟨rfl, trivial⟩ ⟨z52, rfl, hle0, (St.forgetT (St.forget (St.forget (St.forget (St.forget (St.forget hst52 5) 4) 3) 2) 1))⟩
end
end Go.Proofs.Ytbonfgnmipmmbaa.F3
