/- Files: FilesRename. -/
import Derived.Test.YtbonfgnmipmmbaaF5
namespace Go.Proofs.Ytbonfgnmipmmbaa.F6
open Go Go.RowKit Go.Proofs.Ytbonfgnmipmmbaa.Sx Go.Proofs.Ytbonfgnmipmmbaa.F1 Go.Proofs.Ytbonfgnmipmmbaa.F2 Go.Proofs.Ytbonfgnmipmmbaa.F3 Go.Proofs.Ytbonfgnmipmmbaa.F4 Go.Proofs.Ytbonfgnmipmmbaa.F5
set_option linter.unusedVariables false
set_option linter.unusedSimpArgs false
noncomputable section
theorem zr25 : (Try.prog.info? 25).map (·.zero) = some (some (.pointer none)) := by kernel_rfl
theorem sz25 : (Try.prog.info? 25).map (·.size) = some 1 := by kernel_rfl
theorem sz36 : (Try.prog.info? 36).map (·.size) = some 1 := by kernel_rfl
theorem zr36 : (Try.prog.info? 36).map (·.zero) = some (some (.nilFunc)) := by kernel_rfl
def go_law04_FilesRename_c1 (q0 : filesDisk) (ar1 : List filesfile) : Option (Int × filesDisk × List filesfile) :=
  (go_files_Disk_Create q0 [116] ar1).bind fun y8 => some (y8.1, y8.2.1, y8.2.2)
set_option maxRecDepth 100000 in
set_option maxHeartbeats 4000000 in
theorem go_law04_FilesRename_c1.walk {w0 w : World} {Γ1 : List Nat} {X : List Res} {z0 : Zp} {q0 : filesDisk} {gq0o : Nat} {gm1 : Nat} {E1 : Array MapEntry} {c1 : Nat} {gm2 : Nat} {E2 : Array MapEntry} {c2 : Nat} {A3 : Option Addr} {c3 : Nat} {d3 : List Value} {gq0 : Nat} {ar1 : List filesfile} {Ha1 : List Res} {r : Int × filesDisk × List filesfile} (hst : Ht w0 (frz z0 :: (blk gq0 [.pointer (some ⟨gq0o, 0, none⟩)] 25) :: (blk gq0o [.map (some gm1), .map (some gm2), .slice A3 q0.wait_.length c3, vi q0.room_, vi q0.left_, vb q0.down_, vi q0.calls_] 68) :: (ob gm1 (.map E1 c1)) :: (ob gm2 (.map E2 c2)) :: (orow 78 1 (.slice A3 q0.wait_.length c3) q0.wait_.length d3) :: (Ha1 ++ X)) w) (f1 : Mr (tA Γ1) pk1 z0 E1 c1 q0.now_) (f2 : Mr (tA Γ1) pk1 z0 E2 c2 q0.safe_) (f3 : Cs (tSl (tfileschange Γ1)) z0 d3 q0.wait_) (hA1 : Ar1 z0 Γ1 ar1 Ha1) (hf : go_law04_FilesRename_c1 q0 ar1 = some r) :
    Calls Try.prog 24 #[.pointer (some ⟨gq0, 0, none⟩)] w fun e w' => ∃ (z' : Zp) (gm9002 : Nat) (E9002 : Array MapEntry) (c9002 : Nat) (gm9003 : Nat) (E9003 : Array MapEntry) (c9003 : Nat) (A9004 : Option Addr) (c9004 : Nat) (d9004 : List Value) (Ha9009 : List Res) (Γn1 : List Nat), e = .returned (vi r.1) ∧ Le z0 z' ∧ Mr (tA Γn1) pk1 z' E9002 c9002 r.2.1.now_ ∧ Mr (tA Γn1) pk1 z' E9003 c9003 r.2.1.safe_ ∧ Cs (tSl (tfileschange Γn1)) z' d9004 r.2.1.wait_ ∧ Ar1 z' Γn1 r.2.2 Ha9009 ∧ Γ1 <+: Γn1 ∧ Ht w0 (frz z' :: (blk gq0 [.pointer (some ⟨gq0o, 0, none⟩)] 25) :: (blk gq0o [.map (some gm9002), .map (some gm9003), .slice A9004 r.2.1.wait_.length c9004, vi r.2.1.room_, vi r.2.1.left_, vb r.2.1.down_, vi r.2.1.calls_] 68) :: (ob gm9002 (.map E9002 c9002)) :: (ob gm9003 (.map E9003 c9003)) :: (orow 78 1 (.slice A9004 r.2.1.wait_.length c9004) r.2.1.wait_.length d9004) :: (Ha9009 ++ X)) w' := by
  refine calls_np Try.func24 rfl rfl ?_
  have hle0 := Le.refl z0
  unfold go_law04_FilesRename_c1 at hf
  have hGi1 := List.prefix_rfl (l := Γ1)
  refine Run.seq ?_
  refine Run.region ?_
  refine Ops.ex (Ex.assign rfl) rfl rfl rfl ?_
  refine Ops.nil ?_
  refine Run.seq ?_
  refine Run.region ?_
  refine Ops.load rfl Try.underlying25 rfl (hst.cell (i := 1) rfl rfl) rfl ?_
  obtain ⟨y8, hy8, hf⟩ := bnd hf
  refine Ops.call rfl rfl Try.func13 (by kernel_rfl) (by kernel_rfl) rfl (go_files_Disk_Create.walk (Γ1 := Γ1) (p0 := q0) (p1 := [116]) (ar1 := ar1) (hst := (St.mid (B := [blk gq0o [.map (some gm1), .map (some gm2), .slice A3 q0.wait_.length c3, vi q0.room_, vi q0.left_, vb q0.down_, vi q0.calls_] 68, ob gm1 (.map E1 c1), ob gm2 (.map E2 c2), orow 78 1 (.slice A3 q0.wait_.length c3) q0.wait_.length d3]) (M := [blk gq0 [.pointer (some ⟨gq0o, 0, none⟩)] 25]) (Ha := Ha1) (St.up (St.up (St.up (St.up (St.up (St.up hst 1 rfl) 5 rfl) 5 rfl) 5 rfl) 5 rfl) 5 rfl))) (f1 := f1) (f2 := f2) (f3 := f3) (hA1 := hA1) (Ha1 := Ha1) (hf := hy8)) ?_
  rintro _ w8 ⟨z8, gm10, E10, c10, gm11, E11, c11, A12, c12, d12, Ha17, Γ1, rfl, hz8, f10, f11, f12, hA17, hG1_18, hst8⟩
  replace hst8 : Ht w0 (frz z8 :: (blk gq0o [.map (some gm10), .map (some gm11), .slice A12 y8.2.1.wait_.length c12, vi y8.2.1.room_, vi y8.2.1.left_, vb y8.2.1.down_, vi y8.2.1.calls_] 68) :: (ob gm10 (.map E10 c10)) :: (ob gm11 (.map E11 c11)) :: (orow 78 1 (.slice A12 y8.2.1.wait_.length c12) y8.2.1.wait_.length d12) :: (blk gq0 [.pointer (some ⟨gq0o, 0, none⟩)] 25) :: (Ha17 ++ X)) _ := St.mid (B := [blk gq0o [.map (some gm10), .map (some gm11), .slice A12 y8.2.1.wait_.length c12, vi y8.2.1.room_, vi y8.2.1.left_, vb y8.2.1.down_, vi y8.2.1.calls_] 68, ob gm10 (.map E10 c10), ob gm11 (.map E11 c11), orow 78 1 (.slice A12 y8.2.1.wait_.length c12) y8.2.1.wait_.length d12]) (M := Ha17) (Ha := [blk gq0 [.pointer (some ⟨gq0o, 0, none⟩)] 25]) hst8
  refine ⟨_, rfl, ?_⟩
  replace hle0 := hle0.trans hz8
  replace hGi1 := hGi1.trans hG1_18
  refine Ops.ex (Ex.assign rfl) rfl rfl rfl ?_
  refine Ops.nil ?_
  obtain rfl := Option.some.inj hf
  exact Run.retV [vi y8.1] rfl ⟨rfl, trivial⟩ ⟨z8, gm10, E10, c10, gm11, E11, c11, A12, c12, d12, Ha17, Γ1, rfl, hle0, f10, f11, f12, hA17, hGi1, (St.up (St.up (St.up (St.up (St.up (St.up hst8 4 rfl) 4 rfl) 4 rfl) 4 rfl) 5 rfl) 5 rfl)⟩
def go_law04_FilesRename_c2 (q0 : filesDisk) (q1 : List UInt8) (ar1 : List filesfile) : Option (Int × filesDisk × List filesfile) :=
  (go_files_Disk_Append q0 [116] q1 ar1).bind fun y9 => some (y9.1, y9.2.1, y9.2.2)
set_option maxRecDepth 100000 in
set_option maxHeartbeats 4000000 in
theorem go_law04_FilesRename_c2.walk {w0 w : World} {Γ1 : List Nat} {X : List Res} {z0 : Zp} {q0 : filesDisk} {gq0o : Nat} {gm1 : Nat} {E1 : Array MapEntry} {c1 : Nat} {gm2 : Nat} {E2 : Array MapEntry} {c2 : Nat} {A3 : Option Addr} {c3 : Nat} {d3 : List Value} {gq0 : Nat} {q1 : List UInt8} {gq1 : Nat} {A8 : Option Addr} {c8 : Nat} {ar1 : List filesfile} {Ha1 : List Res} {r : Int × filesDisk × List filesfile} (hst : Ht w0 (frz z0 :: (blk gq0 [.pointer (some ⟨gq0o, 0, none⟩)] 25) :: (blk gq0o [.map (some gm1), .map (some gm2), .slice A3 q0.wait_.length c3, vi q0.room_, vi q0.left_, vb q0.down_, vi q0.calls_] 68) :: (ob gm1 (.map E1 c1)) :: (ob gm2 (.map E2 c2)) :: (orow 78 1 (.slice A3 q0.wait_.length c3) q0.wait_.length d3) :: (blk gq1 [.slice A8 q1.length c8] 22) :: (Ha1 ++ X)) w) (f1 : Mr (tA Γ1) pk1 z0 E1 c1 q0.now_) (f2 : Mr (tA Γ1) pk1 z0 E2 c2 q0.safe_) (f3 : Cs (tSl (tfileschange Γ1)) z0 d3 q0.wait_) (f8 : Sl tU8 z0 A8 c8 q1) (hA1 : Ar1 z0 Γ1 ar1 Ha1) (hf : go_law04_FilesRename_c2 q0 q1 ar1 = some r) :
    Calls Try.prog 25 #[.pointer (some ⟨gq0, 0, none⟩), .pointer (some ⟨gq1, 0, none⟩)] w fun e w' => ∃ (z' : Zp) (gm9002 : Nat) (E9002 : Array MapEntry) (c9002 : Nat) (gm9003 : Nat) (E9003 : Array MapEntry) (c9003 : Nat) (A9004 : Option Addr) (c9004 : Nat) (d9004 : List Value) (Ha9009 : List Res), e = .returned (vi r.1) ∧ Le z0 z' ∧ Mr (tA Γ1) pk1 z' E9002 c9002 r.2.1.now_ ∧ Mr (tA Γ1) pk1 z' E9003 c9003 r.2.1.safe_ ∧ Cs (tSl (tfileschange Γ1)) z' d9004 r.2.1.wait_ ∧ Ar1 z' Γ1 r.2.2 Ha9009 ∧ Ht w0 (frz z' :: (blk gq0 [.pointer (some ⟨gq0o, 0, none⟩)] 25) :: (blk gq0o [.map (some gm9002), .map (some gm9003), .slice A9004 r.2.1.wait_.length c9004, vi r.2.1.room_, vi r.2.1.left_, vb r.2.1.down_, vi r.2.1.calls_] 68) :: (ob gm9002 (.map E9002 c9002)) :: (ob gm9003 (.map E9003 c9003)) :: (orow 78 1 (.slice A9004 r.2.1.wait_.length c9004) r.2.1.wait_.length d9004) :: (blk gq1 [.slice A8 q1.length c8] 22) :: (Ha9009 ++ X)) w' := by
  refine calls_np Try.func25 rfl rfl ?_
  have hle0 := Le.refl z0
  unfold go_law04_FilesRename_c2 at hf
  have hGi1 := List.prefix_rfl (l := Γ1)
  refine Run.seq ?_
  refine Run.region ?_
  refine Ops.ex (Ex.assign rfl) rfl rfl rfl ?_
  refine Ops.nil ?_
  refine Run.seq ?_
  refine Run.region ?_
  refine Ops.load rfl Try.underlying25 rfl (hst.cell (i := 1) rfl rfl) rfl ?_
  refine Ops.load rfl Try.underlying22 rfl (hst.cell (i := 6) rfl rfl) rfl ?_
  obtain ⟨y9, hy9, hf⟩ := bnd hf
  refine Ops.call rfl rfl Try.func14 (by kernel_rfl) (by kernel_rfl) rfl (go_files_Disk_Append.walk (Γ1 := Γ1) (p0 := q0) (p1 := [116]) (p2 := q1) (ar1 := ar1) (hst := (St.mid (B := [blk gq0o [.map (some gm1), .map (some gm2), .slice A3 q0.wait_.length c3, vi q0.room_, vi q0.left_, vb q0.down_, vi q0.calls_] 68, ob gm1 (.map E1 c1), ob gm2 (.map E2 c2), orow 78 1 (.slice A3 q0.wait_.length c3) q0.wait_.length d3]) (M := [blk gq0 [.pointer (some ⟨gq0o, 0, none⟩)] 25, blk gq1 [.slice A8 q1.length c8] 22]) (Ha := Ha1) (St.up (St.up (St.up (St.up (St.up (St.up (St.up hst 6 rfl) 2 rfl) 6 rfl) 6 rfl) 6 rfl) 6 rfl) 6 rfl))) (f1 := f1) (f2 := f2) (f3 := f3) (f9 := f8) (hA1 := hA1) (Ha1 := Ha1) (hf := hy9)) ?_
  rintro _ w9 ⟨z9, gm11, E11, c11, gm12, E12, c12, A13, c13, d13, Ha18, rfl, hz9, f11, f12, f13, hA18, hst9⟩
  replace hst9 : Ht w0 (frz z9 :: (blk gq0o [.map (some gm11), .map (some gm12), .slice A13 y9.2.1.wait_.length c13, vi y9.2.1.room_, vi y9.2.1.left_, vb y9.2.1.down_, vi y9.2.1.calls_] 68) :: (ob gm11 (.map E11 c11)) :: (ob gm12 (.map E12 c12)) :: (orow 78 1 (.slice A13 y9.2.1.wait_.length c13) y9.2.1.wait_.length d13) :: (blk gq0 [.pointer (some ⟨gq0o, 0, none⟩)] 25) :: (blk gq1 [.slice A8 q1.length c8] 22) :: (Ha18 ++ X)) _ := St.mid (B := [blk gq0o [.map (some gm11), .map (some gm12), .slice A13 y9.2.1.wait_.length c13, vi y9.2.1.room_, vi y9.2.1.left_, vb y9.2.1.down_, vi y9.2.1.calls_] 68, ob gm11 (.map E11 c11), ob gm12 (.map E12 c12), orow 78 1 (.slice A13 y9.2.1.wait_.length c13) y9.2.1.wait_.length d13]) (M := Ha18) (Ha := [blk gq0 [.pointer (some ⟨gq0o, 0, none⟩)] 25, blk gq1 [.slice A8 q1.length c8] 22]) hst9
  refine ⟨_, rfl, ?_⟩
  replace f8 := f8.mono hz9
  replace hle0 := hle0.trans hz9
  refine Ops.ex (Ex.assign rfl) rfl rfl rfl ?_
  refine Ops.nil ?_
  obtain rfl := Option.some.inj hf
  exact Run.retV [vi y9.1] rfl ⟨rfl, trivial⟩ ⟨z9, gm11, E11, c11, gm12, E12, c12, A13, c13, d13, Ha18, rfl, hle0, f11, f12, f13, hA18, (St.up (St.up (St.up (St.up (St.up (St.up (St.up hst9 6 rfl) 5 rfl) 5 rfl) 5 rfl) 5 rfl) 6 rfl) 6 rfl)⟩
def go_law04_FilesRename_c3 (q0 : filesDisk) (ar1 : List filesfile) : Option (Int × filesDisk × List filesfile) :=
  (go_files_Disk_Sync q0 [116] ar1).bind fun y8 => some (y8.1, y8.2.1, y8.2.2)
set_option maxRecDepth 100000 in
set_option maxHeartbeats 4000000 in
theorem go_law04_FilesRename_c3.walk {w0 w : World} {Γ1 : List Nat} {X : List Res} {z0 : Zp} {q0 : filesDisk} {gq0o : Nat} {gm1 : Nat} {E1 : Array MapEntry} {c1 : Nat} {gm2 : Nat} {E2 : Array MapEntry} {c2 : Nat} {A3 : Option Addr} {c3 : Nat} {d3 : List Value} {gq0 : Nat} {ar1 : List filesfile} {Ha1 : List Res} {r : Int × filesDisk × List filesfile} (hst : Ht w0 (frz z0 :: (blk gq0 [.pointer (some ⟨gq0o, 0, none⟩)] 25) :: (blk gq0o [.map (some gm1), .map (some gm2), .slice A3 q0.wait_.length c3, vi q0.room_, vi q0.left_, vb q0.down_, vi q0.calls_] 68) :: (ob gm1 (.map E1 c1)) :: (ob gm2 (.map E2 c2)) :: (orow 78 1 (.slice A3 q0.wait_.length c3) q0.wait_.length d3) :: (Ha1 ++ X)) w) (f1 : Mr (tA Γ1) pk1 z0 E1 c1 q0.now_) (f2 : Mr (tA Γ1) pk1 z0 E2 c2 q0.safe_) (f3 : Cs (tSl (tfileschange Γ1)) z0 d3 q0.wait_) (hA1 : Ar1 z0 Γ1 ar1 Ha1) (hf : go_law04_FilesRename_c3 q0 ar1 = some r) :
    Calls Try.prog 26 #[.pointer (some ⟨gq0, 0, none⟩)] w fun e w' => ∃ (z' : Zp) (gm9002 : Nat) (E9002 : Array MapEntry) (c9002 : Nat) (gm9003 : Nat) (E9003 : Array MapEntry) (c9003 : Nat) (A9004 : Option Addr) (c9004 : Nat) (d9004 : List Value) (Ha9009 : List Res), e = .returned (vi r.1) ∧ Le z0 z' ∧ Mr (tA Γ1) pk1 z' E9002 c9002 r.2.1.now_ ∧ Mr (tA Γ1) pk1 z' E9003 c9003 r.2.1.safe_ ∧ Cs (tSl (tfileschange Γ1)) z' d9004 r.2.1.wait_ ∧ Ar1 z' Γ1 r.2.2 Ha9009 ∧ Ht w0 (frz z' :: (blk gq0 [.pointer (some ⟨gq0o, 0, none⟩)] 25) :: (blk gq0o [.map (some gm9002), .map (some gm9003), .slice A9004 r.2.1.wait_.length c9004, vi r.2.1.room_, vi r.2.1.left_, vb r.2.1.down_, vi r.2.1.calls_] 68) :: (ob gm9002 (.map E9002 c9002)) :: (ob gm9003 (.map E9003 c9003)) :: (orow 78 1 (.slice A9004 r.2.1.wait_.length c9004) r.2.1.wait_.length d9004) :: (Ha9009 ++ X)) w' := by
  refine calls_np Try.func26 rfl rfl ?_
  have hle0 := Le.refl z0
  unfold go_law04_FilesRename_c3 at hf
  have hGi1 := List.prefix_rfl (l := Γ1)
  refine Run.seq ?_
  refine Run.region ?_
  refine Ops.ex (Ex.assign rfl) rfl rfl rfl ?_
  refine Ops.nil ?_
  refine Run.seq ?_
  refine Run.region ?_
  refine Ops.load rfl Try.underlying25 rfl (hst.cell (i := 1) rfl rfl) rfl ?_
  obtain ⟨y8, hy8, hf⟩ := bnd hf
  refine Ops.call rfl rfl Try.func18 (by kernel_rfl) (by kernel_rfl) rfl (go_files_Disk_Sync.walk (Γ1 := Γ1) (p0 := q0) (p1 := [116]) (ar1 := ar1) (hst := (St.mid (B := [blk gq0o [.map (some gm1), .map (some gm2), .slice A3 q0.wait_.length c3, vi q0.room_, vi q0.left_, vb q0.down_, vi q0.calls_] 68, ob gm1 (.map E1 c1), ob gm2 (.map E2 c2), orow 78 1 (.slice A3 q0.wait_.length c3) q0.wait_.length d3]) (M := [blk gq0 [.pointer (some ⟨gq0o, 0, none⟩)] 25]) (Ha := Ha1) (St.up (St.up (St.up (St.up (St.up (St.up hst 1 rfl) 5 rfl) 5 rfl) 5 rfl) 5 rfl) 5 rfl))) (f1 := f1) (f2 := f2) (f3 := f3) (hA1 := hA1) (Ha1 := Ha1) (hf := hy8)) ?_
  rintro _ w8 ⟨z8, gm10, E10, c10, gm11, E11, c11, A12, c12, d12, Ha17, rfl, hz8, f10, f11, f12, hA17, hst8⟩
  replace hst8 : Ht w0 (frz z8 :: (blk gq0o [.map (some gm10), .map (some gm11), .slice A12 y8.2.1.wait_.length c12, vi y8.2.1.room_, vi y8.2.1.left_, vb y8.2.1.down_, vi y8.2.1.calls_] 68) :: (ob gm10 (.map E10 c10)) :: (ob gm11 (.map E11 c11)) :: (orow 78 1 (.slice A12 y8.2.1.wait_.length c12) y8.2.1.wait_.length d12) :: (blk gq0 [.pointer (some ⟨gq0o, 0, none⟩)] 25) :: (Ha17 ++ X)) _ := St.mid (B := [blk gq0o [.map (some gm10), .map (some gm11), .slice A12 y8.2.1.wait_.length c12, vi y8.2.1.room_, vi y8.2.1.left_, vb y8.2.1.down_, vi y8.2.1.calls_] 68, ob gm10 (.map E10 c10), ob gm11 (.map E11 c11), orow 78 1 (.slice A12 y8.2.1.wait_.length c12) y8.2.1.wait_.length d12]) (M := Ha17) (Ha := [blk gq0 [.pointer (some ⟨gq0o, 0, none⟩)] 25]) hst8
  refine ⟨_, rfl, ?_⟩
  replace hle0 := hle0.trans hz8
  refine Ops.ex (Ex.assign rfl) rfl rfl rfl ?_
  refine Ops.nil ?_
  obtain rfl := Option.some.inj hf
  exact Run.retV [vi y8.1] rfl ⟨rfl, trivial⟩ ⟨z8, gm10, E10, c10, gm11, E11, c11, A12, c12, d12, Ha17, rfl, hle0, f10, f11, f12, hA17, (St.up (St.up (St.up (St.up (St.up (St.up hst8 4 rfl) 4 rfl) 4 rfl) 4 rfl) 5 rfl) 5 rfl)⟩
def go_law04_FilesRename_c4 (q0 : filesDisk) : Option (Int × filesDisk) :=
  (go_files_Disk_Rename q0 [116] [120]).bind fun y8 => some (y8.1, y8.2)
set_option maxRecDepth 100000 in
set_option maxHeartbeats 4000000 in
theorem go_law04_FilesRename_c4.walk {w0 w : World} {Γ1 : List Nat} {X : List Res} {z0 : Zp} {q0 : filesDisk} {gq0o : Nat} {gm1 : Nat} {E1 : Array MapEntry} {c1 : Nat} {gm2 : Nat} {E2 : Array MapEntry} {c2 : Nat} {A3 : Option Addr} {c3 : Nat} {d3 : List Value} {gq0 : Nat} {r : Int × filesDisk} (hst : Ht w0 (frz z0 :: (blk gq0 [.pointer (some ⟨gq0o, 0, none⟩)] 25) :: (blk gq0o [.map (some gm1), .map (some gm2), .slice A3 q0.wait_.length c3, vi q0.room_, vi q0.left_, vb q0.down_, vi q0.calls_] 68) :: (ob gm1 (.map E1 c1)) :: (ob gm2 (.map E2 c2)) :: (orow 78 1 (.slice A3 q0.wait_.length c3) q0.wait_.length d3) :: X) w) (f1 : Mr (tA Γ1) pk1 z0 E1 c1 q0.now_) (f2 : Mr (tA Γ1) pk1 z0 E2 c2 q0.safe_) (f3 : Cs (tSl (tfileschange Γ1)) z0 d3 q0.wait_) (hf : go_law04_FilesRename_c4 q0 = some r) :
    Calls Try.prog 27 #[.pointer (some ⟨gq0, 0, none⟩)] w fun e w' => ∃ (z' : Zp) (gm9002 : Nat) (E9002 : Array MapEntry) (c9002 : Nat) (gm9003 : Nat) (E9003 : Array MapEntry) (c9003 : Nat) (A9004 : Option Addr) (c9004 : Nat) (d9004 : List Value), e = .returned (vi r.1) ∧ Le z0 z' ∧ Mr (tA Γ1) pk1 z' E9002 c9002 r.2.now_ ∧ Mr (tA Γ1) pk1 z' E9003 c9003 r.2.safe_ ∧ Cs (tSl (tfileschange Γ1)) z' d9004 r.2.wait_ ∧ Ht w0 (frz z' :: (blk gq0 [.pointer (some ⟨gq0o, 0, none⟩)] 25) :: (blk gq0o [.map (some gm9002), .map (some gm9003), .slice A9004 r.2.wait_.length c9004, vi r.2.room_, vi r.2.left_, vb r.2.down_, vi r.2.calls_] 68) :: (ob gm9002 (.map E9002 c9002)) :: (ob gm9003 (.map E9003 c9003)) :: (orow 78 1 (.slice A9004 r.2.wait_.length c9004) r.2.wait_.length d9004) :: X) w' := by
  refine calls_np Try.func27 rfl rfl ?_
  have hle0 := Le.refl z0
  unfold go_law04_FilesRename_c4 at hf
  refine Run.seq ?_
  refine Run.region ?_
  refine Ops.ex (Ex.assign rfl) rfl rfl rfl ?_
  refine Ops.nil ?_
  refine Run.seq ?_
  refine Run.region ?_
  refine Ops.load rfl Try.underlying25 rfl (hst.cell (i := 1) rfl rfl) rfl ?_
  obtain ⟨y8, hy8, hf⟩ := bnd hf
  refine Ops.call rfl rfl Try.func28 (by kernel_rfl) (by kernel_rfl) rfl (go_files_Disk_Rename.walk (Γ1 := Γ1) (p0 := q0) (p1 := [116]) (p2 := [120]) (hst := (St.up (St.up (St.up (St.up (St.up (St.up hst 1 rfl) 5 rfl) 5 rfl) 5 rfl) 5 rfl) 5 rfl)) (f1 := f1) (f2 := f2) (f3 := f3) (hf := hy8)) ?_
  rintro _ w8 ⟨z8, gm10, E10, c10, gm11, E11, c11, A12, c12, d12, rfl, hz8, f10, f11, f12, hst8⟩
  refine ⟨_, rfl, ?_⟩
  replace hle0 := hle0.trans hz8
  refine Ops.ex (Ex.assign rfl) rfl rfl rfl ?_
  refine Ops.nil ?_
  obtain rfl := Option.some.inj hf
  exact Run.retV [vi y8.1] rfl ⟨rfl, trivial⟩ ⟨z8, gm10, E10, c10, gm11, E11, c11, A12, c12, d12, rfl, hle0, f10, f11, f12, (St.up (St.up (St.up (St.up (St.up (St.up hst8 4 rfl) 4 rfl) 4 rfl) 4 rfl) 5 rfl) 5 rfl)⟩
def go_law04_FilesRename.j1 (p2 : UInt8) (l10 : List UInt8) (l11 : List UInt8) (ar466 : List filesfile) (mp467 : Mp (Option Nat)) (mp468 : Mp (Option Nat)) (l469 : List (List fileschange)) (x470 : Int) (x471 : Int) (b472 : Bool) (x473 : Int) : Option Bool :=
  (go_files_Disk_Restart (⟨mp467, mp468, l469, x470, x471, b472, x473⟩ : filesDisk) ((p2 % 5).toNat : Int) 0 ar466).bind fun y862 => (go_files_Disk_Read y862.1 [120] y862.2).bind fun y871 => if y871.2.1 = 0 then (if y871.1 = l10 then (some true) else (some (decide (y871.1 = l11)))) else (some false)
def go_law04_FilesRename.j2 (p2 : UInt8) (l10 : List UInt8) (l11 : List UInt8) (nxb475 : (List filesfile × Mp (Option Nat) × Mp (Option Nat) × List (List fileschange) × Int × Int × Bool × Int) → Option Bool) (ar800 : List filesfile) (mp801 : Mp (Option Nat)) (mp802 : Mp (Option Nat)) (l803 : List (List fileschange)) (x804 : Int) (x805 : Int) (b806 : Bool) (x807 : Int) (b808 : Bool) : Option Bool :=
  if b808 then (go_law04_FilesRename.j1 p2 l10 l11 ar800 mp801 mp802 l803 x804 x805 b806 x807) else (nxb475 (ar800, mp801, mp802, l803, x804, x805, b806, x807))
def go_law04_FilesRename.b1 (p2 : UInt8) (l10 : List UInt8) (l11 : List UInt8) (i475 : Nat) (a475 : Nat) : (List filesfile × Mp (Option Nat) × Mp (Option Nat) × List (List fileschange) × Int × Int × Bool × Int) → (List filesfile × Mp (Option Nat) × Mp (Option Nat) × List (List fileschange) × Int × Int × Bool × Int → Option Bool) → Option Bool :=
  fun (ar734, mp735, mp736, l737, x738, x739, b740, x741) nxb475 => if a475 = 0 then ((go_law04_FilesRename_c1 (⟨mp735, mp736, l737, x738, x739, b740, x741⟩ : filesDisk) ar734).bind fun y811 => go_law04_FilesRename.j2 p2 l10 l11 nxb475 y811.2.2 y811.2.1.now_ y811.2.1.safe_ y811.2.1.wait_ y811.2.1.room_ y811.2.1.left_ y811.2.1.down_ y811.2.1.calls_ (!(decide (y811.1 = 0)))) else (if a475 = 1 then ((go_law04_FilesRename_c2 (⟨mp735, mp736, l737, x738, x739, b740, x741⟩ : filesDisk) l11 ar734).bind fun y822 => go_law04_FilesRename.j2 p2 l10 l11 nxb475 y822.2.2 y822.2.1.now_ y822.2.1.safe_ y822.2.1.wait_ y822.2.1.room_ y822.2.1.left_ y822.2.1.down_ y822.2.1.calls_ (!(decide (y822.1 = 0)))) else (if a475 = 2 then ((go_law04_FilesRename_c3 (⟨mp735, mp736, l737, x738, x739, b740, x741⟩ : filesDisk) ar734).bind fun y832 => go_law04_FilesRename.j2 p2 l10 l11 nxb475 y832.2.2 y832.2.1.now_ y832.2.1.safe_ y832.2.1.wait_ y832.2.1.room_ y832.2.1.left_ y832.2.1.down_ y832.2.1.calls_ (!(decide (y832.1 = 0)))) else (if a475 = 3 then ((go_law04_FilesRename_c4 (⟨mp735, mp736, l737, x738, x739, b740, x741⟩ : filesDisk)).bind fun y842 => go_law04_FilesRename.j2 p2 l10 l11 nxb475 ar734 y842.2.now_ y842.2.safe_ y842.2.wait_ y842.2.room_ y842.2.left_ y842.2.down_ y842.2.calls_ (!(decide (y842.1 = 0)))) else (if a475 = 4 then ((go_files_Disk_SyncDir (⟨mp735, mp736, l737, x738, x739, b740, x741⟩ : filesDisk)).bind fun y851 => go_law04_FilesRename.j2 p2 l10 l11 nxb475 ar734 y851.2.now_ y851.2.safe_ y851.2.wait_ y851.2.room_ y851.2.left_ y851.2.down_ y851.2.calls_ (!(decide (y851.1 = 0)))) else (none)))))
def go_law04_FilesRename (p0 : List UInt8) (p1 : List UInt8) (p2 : UInt8) (p3 : UInt8) : Option Bool :=
  (go_law04_awake).bind fun y6 => if y6 then ((cutI p0 0 (min (p0.length : Int) 60)).bind fun l10 => (cutI p1 0 (min (p1.length : Int) 60)).bind fun l11 => (go_files_Of 200).bind fun y13 => (go_files_Disk_Create y13 [120] ([] : List filesfile)).bind fun y25 => if y25.1 = 0 then ((go_files_Disk_Append y25.2.1 [120] l10 y25.2.2).bind fun y36 => if y36.1 = 0 then ((go_files_Disk_Sync y36.2.1 [120] y36.2.2).bind fun y46 => if y46.1 = 0 then ((go_files_Disk_SyncDir y46.2.1).bind fun y56 => if y56.1 = 0 then ((go_files_Disk_Arm y56.2 ((p3 % 8).toNat : Int)).bind fun y65 => forL (go_law04_FilesRename.b1 p2 l10 l11) (fun (ar734, mp735, mp736, l737, x738, x739, b740, x741) => go_law04_FilesRename.j1 p2 l10 l11 ar734 mp735 mp736 l737 x738 x739 b740 x741) 0 [0, 1, 2, 3, 4] (y46.2.2, y65.now_, y65.safe_, y65.wait_, y65.room_, y65.left_, y65.down_, y65.calls_)) else (some false)) else (some false)) else (some false)) else (some false)) else (some false)
set_option maxRecDepth 100000 in
set_option maxHeartbeats 4000000 in
theorem go_law04_FilesRename.walk {w0 w : World} {X : List Res} {z0 : Zp} {p0 : List UInt8} {A1 : Option Addr} {c1 : Nat} {p1 : List UInt8} {A2 : Option Addr} {c2 : Nat} {p2 : UInt8} {p3 : UInt8} {r : Bool} (hst : Ht w0 (frz z0 :: X) w) (f1 : Sl tU8 z0 A1 c1 p0) (f2 : Sl tU8 z0 A2 c2 p1) (hf : go_law04_FilesRename p0 p1 p2 p3 = some r) :
    Calls Try.prog 6 #[.slice A1 p0.length c1, .slice A2 p1.length c2, vu8 p2, vu8 p3] w fun e w' => ∃ (z' : Zp), e = .returned (vb r) ∧ Le z0 z' ∧ Ht w0 (frz z' :: X) w' := by
  refine calls_np Try.func6 rfl rfl ?_
  have hle0 := Le.refl z0
  unfold go_law04_FilesRename at hf
  refine Run.seq ?_
  refine Run.region ?_
  refine Ops.boxF [.slice A2 p1.length c2] hst rfl rfl rfl (fun g5 w5 hst5 => ?_)
  refine Ops.ex (Ex.assign rfl) rfl rfl rfl ?_
  refine Ops.nil ?_
  refine Run.seq ?_
  refine Run.seq ?_
  refine Run.region ?_
  obtain ⟨y6, hy6, hf⟩ := bnd hf
  refine Ops.call rfl rfl Try.func11 (by kernel_rfl) (by kernel_rfl) rfl (go_law04_awake.walk (hst := hst5) (hf := hy6)) ?_
  rintro _ w6 ⟨z6, rfl, hz6, hst6⟩
  refine ⟨_, rfl, ?_⟩
  replace f1 := f1.mono hz6; replace f2 := f2.mono hz6
  replace hle0 := hle0.trans hz6
  refine Ops.ex (Ex.not rfl) rfl rfl rfl ?_
  refine Ops.nil ?_
  refine Run.cond rfl (fun hc => ?_) (fun hc => ?_)
  · replace hf := ifFb (bn_T hc) hf
    refine Run.seq ?_
    refine Run.region ?_
    refine Ops.ex (Ex.assign rfl) rfl rfl rfl ?_
    refine Ops.nil ?_
    obtain rfl := Option.some.inj hf
    exact Run.retV [vb false] rfl ⟨rfl, trivial⟩ ⟨z6, rfl, hle0, (St.forget hst6 1)⟩
  · replace hf := ifTb (bn_F hc) hf
    refine Run.skip ?_
    refine Run.seq ?_
    have hm9 := Le.refl z6
    refine Run.drawH [([], fun w => ∃ ζ Y, Le z6 ζ ∧ Ht w0 (frz ζ :: Y) w), ([11], fun w => ∃ ζ Y, Le z6 ζ ∧ Ht w0 (frz ζ :: (blk g5 [.slice A2 p1.length c2] 22) :: Y) w)] (by kernel_rfl) hst6 (fun w8 hst8 => ?_)
    have hS0 := (⟨_, _, (Le.refl _), hst8⟩ : (fun w => ∃ ζ Y, Le z6 ζ ∧ Ht w0 (frz ζ :: Y) w) _)
    have hS1 := (⟨_, _, (Le.refl _), (St.up (St.up hst8 1 rfl) 1 rfl)⟩ : (fun w => ∃ ζ Y, Le z6 ζ ∧ Ht w0 (frz ζ :: (blk g5 [.slice A2 p1.length c2] 22) :: Y) w) _)
    refine Any.takeE 0 rfl rfl rfl rfl (by kernel_rfl) (fun _ _ _ _ _ h => h) ((Ex.move rfl).s) ?_
    refine Any.takeE 1 rfl rfl rfl rfl (by kernel_rfl) (fun _ _ _ _ _ h => h) ((Ex.move rfl).s) ?_
    refine Any.takeE 2 rfl rfl rfl rfl (by kernel_rfl) (fun _ _ _ _ _ h => h) ((Ex.len' rfl rfl rfl Try.underlying22).s) ?_
    refine Any.takeE 3 rfl rfl rfl rfl (by kernel_rfl) (fun _ _ _ _ _ h => h) ((Ex.min2 rfl rfl rfl).s) ?_
    obtain ⟨l10, hy10, hf⟩ := bnd hf
    obtain ⟨A10, c10, hA10, hB10, f10⟩ := SlH.sub f1.toH hy10
    replace f10 := f10.toS
    refine Any.takeE 4 rfl rfl rfl rfl (by kernel_rfl) (fun _ _ _ _ _ h => h) ((Ex.subA hA10 hB10 hy10 rfl rfl Try.underlying22 sz5 rfl rfl).s) ?_
    refine Any.take 1 5 rfl rfl rfl rfl rfl (by kernel_rfl) (fun _ _ _ _ _ h => h) (ExS.load rfl Try.underlying22 rfl (fun w hS => by obtain ⟨_, _, _, hs⟩ := hS; exact hs.cell (i := 1) rfl rfl)) hS1 ?_
    refine Any.take 1 6 rfl rfl rfl rfl rfl (by kernel_rfl) (fun _ _ _ _ _ h => h) (ExS.load rfl Try.underlying22 rfl (fun w hS => by obtain ⟨_, _, _, hs⟩ := hS; exact hs.cell (i := 1) rfl rfl)) hS1 ?_
    refine Any.takeE 7 rfl rfl rfl rfl (by kernel_rfl) (fun _ _ _ _ _ h => h) ((Ex.len' rfl rfl rfl Try.underlying22).s) ?_
    refine Any.takeE 8 rfl rfl rfl rfl (by kernel_rfl) (fun _ _ _ _ _ h => h) ((Ex.min2 rfl rfl rfl).s) ?_
    obtain ⟨l11, hy11, hf⟩ := bnd hf
    obtain ⟨A11, c11, hA11, hB11, f11⟩ := SlH.sub f2.toH hy11
    replace f11 := f11.toS
    refine Any.takeE 9 rfl rfl rfl rfl (by kernel_rfl) (fun _ _ _ _ _ h => h) ((Ex.subA hA11 hB11 hy11 rfl rfl Try.underlying22 sz5 rfl rfl).s) ?_
    refine Any.takeE 10 rfl rfl rfl rfl (by kernel_rfl) (fun _ _ _ _ _ h => h) ((Ex.assign rfl).s) ?_
    refine Any.one 11 (by kernel_rfl) rfl rfl (One.of_ops rfl ?_)
    refine Ops.store 1 [.slice A11 l11.length c11] hst8 rfl rfl rfl rfl sz22 rfl (by simp [Value.oneCell']) (by simp) (fun w12 hst12 => Ops.stop ?_)
    have hS0 := (⟨_, _, (Le.refl _), hst12⟩ : (fun w => ∃ ζ Y, Le z6 ζ ∧ Ht w0 (frz ζ :: Y) w) _)
    refine ⟨⟨.inr (fun _ => hS0), .inl (by decide), trivial⟩, ?_⟩
    refine Any.done (by kernel_rfl) ?_
    refine Run.seq ?_
    refine Run.region ?_
    obtain ⟨Γ1, hΓ14⟩ : ∃ L : List Nat, L = [] := ⟨_, rfl⟩
    have hA14 : Ar1 z6 Γ1 [] [] := ArL.nil _ _ hΓ14
    have hp14 := List.prefix_rfl (l := Γ1)
    have hst14 : Ht w0 (frz z6 :: (blk g5 [.slice A11 l11.length c11] 22) :: ([] ++ X)) _ := hst12
    obtain ⟨y13, hy13, hf⟩ := bnd hf
    refine Ops.call rfl rfl Try.func12 (by kernel_rfl) (by kernel_rfl) rfl (go_files_Of.walk (Γ1 := Γ1) (p0 := 200) (hst := hst14) (hf := hy13)) ?_
    rintro _ w13 ⟨z13, g15, gm16, E16, c16, gm17, E17, c17, A18, c18, d18, rfl, hz13, f16, f17, f18, hst13⟩
    refine ⟨_, rfl, ?_⟩
    replace f10 := f10.mono hz13; replace f2 := f2.mono hz13; replace f1 := f1.mono hz13; replace f11 := f11.mono hz13; replace hA14 := hA14.mono hz13
    replace hle0 := hle0.trans hz13
    replace hm9 := hm9.trans hz13
    refine Ops.allocF [.pointer none] hst13 zr25 rfl rfl (fun g23 w23 hst23 => ?_)
    refine Ops.store 1 [.pointer (some ⟨g15, 0, none⟩)] hst23 rfl rfl rfl rfl sz25 rfl (by simp [Value.oneCell']) (by simp) (fun w24 hst24 => ?_)
    refine Ops.nil ?_
    refine Run.seq ?_
    refine Run.seq ?_
    refine Run.region ?_
    refine Ops.load rfl Try.underlying25 rfl (hst24.cell (i := 1) rfl rfl) rfl ?_
    obtain ⟨y25, hy25, hf⟩ := bnd hf
    refine Ops.call rfl rfl Try.func13 (by kernel_rfl) (by kernel_rfl) rfl (go_files_Disk_Create.walk (Γ1 := Γ1) (p0 := y13) (p1 := [120]) (ar1 := ([] : List filesfile)) (hst := (St.mid (B := [blk g15 [.map (some gm16), .map (some gm17), .slice A18 y13.wait_.length c18, vi y13.room_, vi y13.left_, vb y13.down_, vi y13.calls_] 68, ob gm16 (.map E16 c16), ob gm17 (.map E17 c17), orow 78 1 (.slice A18 y13.wait_.length c18) y13.wait_.length d18]) (M := [blk g23 [.pointer (some ⟨g15, 0, none⟩)] 25, blk g5 [.slice A11 l11.length c11] 22]) (Ha := []) (St.up (St.up (St.up (St.up (St.up (St.up (St.up hst24 6 rfl) 2 rfl) 6 rfl) 6 rfl) 6 rfl) 6 rfl) 6 rfl))) (f1 := f16) (f2 := f17) (f3 := f18) (hA1 := hA14) (Ha1 := []) (hf := hy25)) ?_
    rintro _ w25 ⟨z25, gm27, E27, c27, gm28, E28, c28, A29, c29, d29, Ha34, Γ1, rfl, hz25, f27, f28, f29, hA34, hG1_35, hst25⟩
    replace hst25 : Ht w0 (frz z25 :: (blk g15 [.map (some gm27), .map (some gm28), .slice A29 y25.2.1.wait_.length c29, vi y25.2.1.room_, vi y25.2.1.left_, vb y25.2.1.down_, vi y25.2.1.calls_] 68) :: (ob gm27 (.map E27 c27)) :: (ob gm28 (.map E28 c28)) :: (orow 78 1 (.slice A29 y25.2.1.wait_.length c29) y25.2.1.wait_.length d29) :: (blk g23 [.pointer (some ⟨g15, 0, none⟩)] 25) :: (blk g5 [.slice A11 l11.length c11] 22) :: (Ha34 ++ X)) _ := St.mid (B := [blk g15 [.map (some gm27), .map (some gm28), .slice A29 y25.2.1.wait_.length c29, vi y25.2.1.room_, vi y25.2.1.left_, vb y25.2.1.down_, vi y25.2.1.calls_] 68, ob gm27 (.map E27 c27), ob gm28 (.map E28 c28), orow 78 1 (.slice A29 y25.2.1.wait_.length c29) y25.2.1.wait_.length d29]) (M := Ha34) (Ha := [blk g23 [.pointer (some ⟨g15, 0, none⟩)] 25, blk g5 [.slice A11 l11.length c11] 22]) hst25
    refine ⟨_, rfl, ?_⟩
    replace f10 := f10.mono hz25; replace f2 := f2.mono hz25; replace f1 := f1.mono hz25; replace f11 := f11.mono hz25
    replace hle0 := hle0.trans hz25
    replace hm9 := hm9.trans hz25
    replace hp14 := hp14.trans hG1_35
    refine Ops.ex (Ex.neqI rfl rfl) rfl rfl rfl ?_
    refine Ops.ex (Ex.move rfl) rfl rfl rfl ?_
    refine Ops.case 30 rfl (fun hc => ?_) (fun hc => ?_)
    · replace hf := ifF (neq_T hc) hf
      refine Ops.off rfl rfl ?_
      refine Ops.off rfl rfl ?_
      refine Ops.off rfl rfl ?_
      refine Ops.off rfl rfl ?_
      refine Ops.ex (Ex.pickT rfl rfl) rfl rfl rfl ?_
      refine Ops.ex (Ex.move rfl) rfl rfl rfl ?_
      refine Ops.off rfl rfl ?_
      refine Ops.off rfl rfl ?_
      refine Ops.off rfl rfl ?_
      refine Ops.ex (Ex.pickT rfl rfl) rfl rfl rfl ?_
      refine Ops.ex (Ex.move rfl) rfl rfl rfl ?_
      refine Ops.off rfl rfl ?_
      refine Ops.off rfl rfl ?_
      refine Ops.off rfl rfl ?_
      refine Ops.ex (Ex.pickT rfl rfl) rfl rfl rfl ?_
      refine Ops.nil ?_
      refine Run.condT rfl rfl ?_
      refine Run.seq ?_
      refine Run.region ?_
      refine Ops.ex (Ex.assign rfl) rfl rfl rfl ?_
      refine Ops.nil ?_
      obtain rfl := Option.some.inj hf
      exact Run.retV [vb false] rfl ⟨rfl, trivial⟩ ⟨z25, rfl, hle0, (St.forgetT (St.forget (St.forget (St.forget (St.forget (St.forget (St.forget hst25 6) 5) 4) 3) 2) 1))⟩
    · replace hf := ifT (neq_F hc) hf
      refine Ops.on rfl ?_
      refine Ops.load rfl Try.underlying25 rfl (hst25.cell (i := 5) rfl rfl) rfl ?_
      refine Ops.on rfl ?_
      refine Ops.ex (Ex.move rfl) rfl rfl rfl ?_
      refine Ops.on rfl ?_
      obtain ⟨y36, hy36, hf⟩ := bnd hf
      refine Ops.call rfl rfl Try.func14 (by kernel_rfl) (by kernel_rfl) rfl (go_files_Disk_Append.walk (Γ1 := Γ1) (p0 := y25.2.1) (p1 := [120]) (p2 := l10) (ar1 := y25.2.2) (hst := (St.mid (B := [blk g15 [.map (some gm27), .map (some gm28), .slice A29 y25.2.1.wait_.length c29, vi y25.2.1.room_, vi y25.2.1.left_, vb y25.2.1.down_, vi y25.2.1.calls_] 68, ob gm27 (.map E27 c27), ob gm28 (.map E28 c28), orow 78 1 (.slice A29 y25.2.1.wait_.length c29) y25.2.1.wait_.length d29]) (M := [blk g23 [.pointer (some ⟨g15, 0, none⟩)] 25, blk g5 [.slice A11 l11.length c11] 22]) (Ha := Ha34) hst25)) (f1 := f27) (f2 := f28) (f3 := f29) (f9 := f10) (hA1 := hA34) (Ha1 := Ha34) (hf := hy36)) ?_
      rintro _ w36 ⟨z36, gm38, E38, c38, gm39, E39, c39, A40, c40, d40, Ha45, rfl, hz36, f38, f39, f40, hA45, hst36⟩
      replace hst36 : Ht w0 (frz z36 :: (blk g15 [.map (some gm38), .map (some gm39), .slice A40 y36.2.1.wait_.length c40, vi y36.2.1.room_, vi y36.2.1.left_, vb y36.2.1.down_, vi y36.2.1.calls_] 68) :: (ob gm38 (.map E38 c38)) :: (ob gm39 (.map E39 c39)) :: (orow 78 1 (.slice A40 y36.2.1.wait_.length c40) y36.2.1.wait_.length d40) :: (blk g23 [.pointer (some ⟨g15, 0, none⟩)] 25) :: (blk g5 [.slice A11 l11.length c11] 22) :: (Ha45 ++ X)) _ := St.mid (B := [blk g15 [.map (some gm38), .map (some gm39), .slice A40 y36.2.1.wait_.length c40, vi y36.2.1.room_, vi y36.2.1.left_, vb y36.2.1.down_, vi y36.2.1.calls_] 68, ob gm38 (.map E38 c38), ob gm39 (.map E39 c39), orow 78 1 (.slice A40 y36.2.1.wait_.length c40) y36.2.1.wait_.length d40]) (M := Ha45) (Ha := [blk g23 [.pointer (some ⟨g15, 0, none⟩)] 25, blk g5 [.slice A11 l11.length c11] 22]) hst36
      refine ⟨_, rfl, ?_⟩
      replace f10 := f10.mono hz36; replace f2 := f2.mono hz36; replace f1 := f1.mono hz36; replace f11 := f11.mono hz36
      replace hle0 := hle0.trans hz36
      replace hm9 := hm9.trans hz36
      refine Ops.on rfl ?_
      refine Ops.ex (Ex.neqI rfl rfl) rfl rfl rfl ?_
      refine Ops.ex (Ex.pickF rfl rfl) rfl rfl rfl ?_
      refine Ops.ex (Ex.move rfl) rfl rfl rfl ?_
      refine Ops.case 36 rfl (fun hc => ?_) (fun hc => ?_)
      · replace hf := ifF (neq_T hc) hf
        refine Ops.off rfl rfl ?_
        refine Ops.off rfl rfl ?_
        refine Ops.off rfl rfl ?_
        refine Ops.ex (Ex.pickT rfl rfl) rfl rfl rfl ?_
        refine Ops.ex (Ex.move rfl) rfl rfl rfl ?_
        refine Ops.off rfl rfl ?_
        refine Ops.off rfl rfl ?_
        refine Ops.off rfl rfl ?_
        refine Ops.ex (Ex.pickT rfl rfl) rfl rfl rfl ?_
        refine Ops.nil ?_
        refine Run.condT rfl rfl ?_
        refine Run.seq ?_
        refine Run.region ?_
        refine Ops.ex (Ex.assign rfl) rfl rfl rfl ?_
        refine Ops.nil ?_
        obtain rfl := Option.some.inj hf
        exact Run.retV [vb false] rfl ⟨rfl, trivial⟩ ⟨z36, rfl, hle0, (St.forgetT (St.forget (St.forget (St.forget (St.forget (St.forget (St.forget hst36 6) 5) 4) 3) 2) 1))⟩
      · replace hf := ifT (neq_F hc) hf
        refine Ops.on rfl ?_
        refine Ops.load rfl Try.underlying25 rfl (hst36.cell (i := 5) rfl rfl) rfl ?_
        refine Ops.on rfl ?_
        obtain ⟨y46, hy46, hf⟩ := bnd hf
        refine Ops.call rfl rfl Try.func18 (by kernel_rfl) (by kernel_rfl) rfl (go_files_Disk_Sync.walk (Γ1 := Γ1) (p0 := y36.2.1) (p1 := [120]) (ar1 := y36.2.2) (hst := (St.mid (B := [blk g15 [.map (some gm38), .map (some gm39), .slice A40 y36.2.1.wait_.length c40, vi y36.2.1.room_, vi y36.2.1.left_, vb y36.2.1.down_, vi y36.2.1.calls_] 68, ob gm38 (.map E38 c38), ob gm39 (.map E39 c39), orow 78 1 (.slice A40 y36.2.1.wait_.length c40) y36.2.1.wait_.length d40]) (M := [blk g23 [.pointer (some ⟨g15, 0, none⟩)] 25, blk g5 [.slice A11 l11.length c11] 22]) (Ha := Ha45) hst36)) (f1 := f38) (f2 := f39) (f3 := f40) (hA1 := hA45) (Ha1 := Ha45) (hf := hy46)) ?_
        rintro _ w46 ⟨z46, gm48, E48, c48, gm49, E49, c49, A50, c50, d50, Ha55, rfl, hz46, f48, f49, f50, hA55, hst46⟩
        replace hst46 : Ht w0 (frz z46 :: (blk g15 [.map (some gm48), .map (some gm49), .slice A50 y46.2.1.wait_.length c50, vi y46.2.1.room_, vi y46.2.1.left_, vb y46.2.1.down_, vi y46.2.1.calls_] 68) :: (ob gm48 (.map E48 c48)) :: (ob gm49 (.map E49 c49)) :: (orow 78 1 (.slice A50 y46.2.1.wait_.length c50) y46.2.1.wait_.length d50) :: (blk g23 [.pointer (some ⟨g15, 0, none⟩)] 25) :: (blk g5 [.slice A11 l11.length c11] 22) :: (Ha55 ++ X)) _ := St.mid (B := [blk g15 [.map (some gm48), .map (some gm49), .slice A50 y46.2.1.wait_.length c50, vi y46.2.1.room_, vi y46.2.1.left_, vb y46.2.1.down_, vi y46.2.1.calls_] 68, ob gm48 (.map E48 c48), ob gm49 (.map E49 c49), orow 78 1 (.slice A50 y46.2.1.wait_.length c50) y46.2.1.wait_.length d50]) (M := Ha55) (Ha := [blk g23 [.pointer (some ⟨g15, 0, none⟩)] 25, blk g5 [.slice A11 l11.length c11] 22]) hst46
        refine ⟨_, rfl, ?_⟩
        replace f10 := f10.mono hz46; replace f2 := f2.mono hz46; replace f1 := f1.mono hz46; replace f11 := f11.mono hz46
        replace hle0 := hle0.trans hz46
        replace hm9 := hm9.trans hz46
        refine Ops.on rfl ?_
        refine Ops.ex (Ex.neqI rfl rfl) rfl rfl rfl ?_
        refine Ops.ex (Ex.pickF rfl rfl) rfl rfl rfl ?_
        refine Ops.ex (Ex.move rfl) rfl rfl rfl ?_
        refine Ops.case 41 rfl (fun hc => ?_) (fun hc => ?_)
        · replace hf := ifF (neq_T hc) hf
          refine Ops.off rfl rfl ?_
          refine Ops.off rfl rfl ?_
          refine Ops.off rfl rfl ?_
          refine Ops.ex (Ex.pickT rfl rfl) rfl rfl rfl ?_
          refine Ops.nil ?_
          refine Run.condT rfl rfl ?_
          refine Run.seq ?_
          refine Run.region ?_
          refine Ops.ex (Ex.assign rfl) rfl rfl rfl ?_
          refine Ops.nil ?_
          obtain rfl := Option.some.inj hf
          exact Run.retV [vb false] rfl ⟨rfl, trivial⟩ ⟨z46, rfl, hle0, (St.forgetT (St.forget (St.forget (St.forget (St.forget (St.forget (St.forget hst46 6) 5) 4) 3) 2) 1))⟩
        · replace hf := ifT (neq_F hc) hf
          refine Ops.on rfl ?_
          refine Ops.load rfl Try.underlying25 rfl (hst46.cell (i := 5) rfl rfl) rfl ?_
          refine Ops.on rfl ?_
          obtain ⟨y56, hy56, hf⟩ := bnd hf
          refine Ops.call rfl rfl Try.func19 (by kernel_rfl) (by kernel_rfl) rfl (go_files_Disk_SyncDir.walk (Γ1 := Γ1) (p0 := y46.2.1) (hst := hst46) (f1 := f48) (f2 := f49) (f3 := f50) (hf := hy56)) ?_
          rintro _ w56 ⟨z56, gm58, E58, c58, gm59, E59, c59, A60, c60, d60, rfl, hz56, f58, f59, f60, hst56⟩
          refine ⟨_, rfl, ?_⟩
          replace f10 := f10.mono hz56; replace f2 := f2.mono hz56; replace f1 := f1.mono hz56; replace f11 := f11.mono hz56; replace hA55 := hA55.mono hz56
          replace hle0 := hle0.trans hz56
          replace hm9 := hm9.trans hz56
          refine Ops.on rfl ?_
          refine Ops.ex (Ex.neqI rfl rfl) rfl rfl rfl ?_
          refine Ops.ex (Ex.pickF rfl rfl) rfl rfl rfl ?_
          refine Ops.nil ?_
          refine Run.cond rfl (fun hc => ?_) (fun hc => ?_)
          · replace hf := ifF (neq_T hc) hf
            refine Run.seq ?_
            refine Run.region ?_
            refine Ops.ex (Ex.assign rfl) rfl rfl rfl ?_
            refine Ops.nil ?_
            obtain rfl := Option.some.inj hf
            exact Run.retV [vb false] rfl ⟨rfl, trivial⟩ ⟨z56, rfl, hle0, (St.forgetT (St.forget (St.forget (St.forget (St.forget (St.forget (St.forget hst56 6) 5) 4) 3) 2) 1))⟩
          · replace hf := ifT (neq_F hc) hf
            refine Run.skip ?_
            refine Run.seq ?_
            refine Run.region ?_
            refine Ops.load rfl Try.underlying25 rfl (hst56.cell (i := 5) rfl rfl) rfl ?_
            refine Ops.ex (Ex.move rfl) rfl rfl rfl ?_
            refine Ops.ex (Ex.rem8 (a := p3) (b := 8) rfl rfl (by decide)) rfl rfl rfl ?_
            refine Ops.ex (Ex.cu8 rfl Try.underlying5 Try.underlying3) rfl rfl rfl ?_
            obtain ⟨y65, hy65, hf⟩ := bnd hf
            refine Ops.call rfl rfl Try.func23 (by kernel_rfl) (by kernel_rfl) rfl (go_files_Disk_Arm.walk (Γ1 := Γ1) (p0 := y56.2) (p1 := ((p3 % 8).toNat : Int)) (hst := hst56) (f1 := f58) (f2 := f59) (f3 := f60) (hf := hy65)) ?_
            rintro _ w65 ⟨z65, gm66, E66, c66, gm67, E67, c67, A68, c68, d68, rfl, hz65, f66, f67, f68, hst65⟩
            refine ⟨_, rfl, ?_⟩
            replace f10 := f10.mono hz65; replace f2 := f2.mono hz65; replace f1 := f1.mono hz65; replace f11 := f11.mono hz65; replace hA55 := hA55.mono hz65
            replace hle0 := hle0.trans hz65
            replace hm9 := hm9.trans hz65
            refine Ops.nil ?_
            refine Run.seq ?_
            refine Run.seq ?_
            refine Run.region ?_
            refine Ops.ex (Ex.funcE rfl rfl) rfl rfl rfl ?_
            refine Ops.ex (Ex.funcE rfl rfl) rfl rfl rfl ?_
            refine Ops.ex (Ex.funcE rfl rfl) rfl rfl rfl ?_
            refine Ops.ex (Ex.funcE rfl rfl) rfl rfl rfl ?_
            refine Ops.load rfl Try.underlying25 rfl (hst65.cell (i := 5) rfl rfl) rfl ?_
            refine Ops.ex (Ex.funcE rfl rfl) rfl rfl rfl ?_
            refine Ops.sliceF [.func (.func 24) #[] #[.pointer (some ⟨g23, 0, none⟩)], .func (.func 25) #[] #[.pointer (some ⟨g23, 0, none⟩), .pointer (some ⟨g5, 0, none⟩)], .func (.func 26) #[] #[.pointer (some ⟨g23, 0, none⟩)], .func (.func 27) #[] #[.pointer (some ⟨g23, 0, none⟩)], .func (.func 19) #[.pointer (some ⟨g15, 0, none⟩)] #[]] hst65 rfl Try.underlying44 sz36 zr36 rfl rfl (by kernel_rfl) rfl (by simp [Value.oneCell']) rfl (fun A73 w73 hst73 => ?_)
            have f73 : Cs (tFnL [(24, #[], #[.pointer (some ⟨g23, 0, none⟩)]), (25, #[], #[.pointer (some ⟨g23, 0, none⟩), .pointer (some ⟨g5, 0, none⟩)]), (26, #[], #[.pointer (some ⟨g23, 0, none⟩)]), (27, #[], #[.pointer (some ⟨g23, 0, none⟩)]), (19, #[.pointer (some ⟨g15, 0, none⟩)], #[])]) z65 [.func (.func 24) #[] #[.pointer (some ⟨g23, 0, none⟩)], .func (.func 25) #[] #[.pointer (some ⟨g23, 0, none⟩), .pointer (some ⟨g5, 0, none⟩)], .func (.func 26) #[] #[.pointer (some ⟨g23, 0, none⟩)], .func (.func 27) #[] #[.pointer (some ⟨g23, 0, none⟩)], .func (.func 19) #[.pointer (some ⟨g15, 0, none⟩)] #[]] [0, 1, 2, 3, 4] := (Cs.cons (c := [.func (.func 24) #[] #[.pointer (some ⟨g23, 0, none⟩)]]) rfl (Cs.cons (c := [.func (.func 25) #[] #[.pointer (some ⟨g23, 0, none⟩), .pointer (some ⟨g5, 0, none⟩)]]) rfl (Cs.cons (c := [.func (.func 26) #[] #[.pointer (some ⟨g23, 0, none⟩)]]) rfl (Cs.cons (c := [.func (.func 27) #[] #[.pointer (some ⟨g23, 0, none⟩)]]) rfl (Cs.cons (c := [.func (.func 19) #[.pointer (some ⟨g15, 0, none⟩)] #[]]) rfl (Cs.nil _ _))))))
            refine Ops.ex (Ex.len' rfl rfl rfl Try.underlying44) rfl rfl rfl ?_
            refine Ops.ex (Ex.move rfl) rfl rfl rfl ?_
            refine Ops.nil ?_
            have hm463 := Le.refl z65
            have hp464 := List.prefix_rfl (l := Γ1)
            apply Run.jn (fun e' w' => ∃ (ar466 : List filesfile) (mp467 : Mp (Option Nat)) (mp468 : Mp (Option Nat)) (l469 : List (List fileschange)) (x470 : Int) (x471 : Int) (b472 : Bool) (x473 : Int) (Ha466 : List Res) (g467 : Nat) (E467 : Array MapEntry) (c467 : Nat) (g468 : Nat) (E468 : Array MapEntry) (c468 : Nat) (A469 : Option Addr) (c469 : Nat) (d469 : List Value) (Γn1 : List Nat) (z465 : Zp), go_law04_FilesRename.j1 p2 l10 l11 ar466 mp467 mp468 l469 x470 x471 b472 x473 = some r ∧ e' = [(0, .slice A10 l10.length c10), (2, vu8 p2), (5, .pointer (some ⟨g5, 0, none⟩)), (9, .pointer (some ⟨g23, 0, none⟩))] ∧ Le z65 z465 ∧ Le z0 z465 ∧ Le z6 z465 ∧ Ar1 z465 Γn1 ar466 Ha466 ∧ Mr (tA Γn1) pk1 z465 E467 c467 mp467 ∧ Mr (tA Γn1) pk1 z465 E468 c468 mp468 ∧ Cs (tSl (tfileschange Γn1)) z465 d469 l469 ∧ Γ1 <+: Γn1 ∧ Ht w0 (frz z465 :: (ob g467 (.map E467 c467)) :: (ob g468 (.map E468 c468)) :: (orow 78 1 (.slice A469 l469.length c469) l469.length d469) :: (blk g15 [.map (some g467), .map (some g468), .slice A469 l469.length c469, vi x470, vi x471, vb b472, vi x473] 68) :: (blk g23 [.pointer (some ⟨g15, 0, none⟩)] 25) :: (blk g5 [.slice A11 l11.length c11] 22) :: (Ha466 ++ X)) w')
            · intro hj74
              refine Run.block ?_
              have hc475 := (own_slh f73 rfl (hst73.get (i := 1) rfl)).cap
              refine Run.sub (e' := [(0, .slice A10 l10.length c10), (2, vu8 p2), (5, .pointer (some ⟨g5, 0, none⟩)), (9, .pointer (some ⟨g23, 0, none⟩)), (57, .slice A73 [0, 1, 2, 3, 4].length 5), (58, vi ([0, 1, 2, 3, 4].length : Int)), (59, vi ((0 : Nat) : Int))]) (subB_spec ⟨rfl, rfl, rfl, rfl, rfl, rfl, rfl, trivial⟩) ?_
              refine Run.loop (fun mb475 => (fun e' w' => ∃ (i475 : Nat) (ar734 : List filesfile) (mp735 : Mp (Option Nat)) (mp736 : Mp (Option Nat)) (l737 : List (List fileschange)) (x738 : Int) (x739 : Int) (b740 : Bool) (x741 : Int) (Ha734 : List Res) (g735 : Nat) (E735 : Array MapEntry) (c735 : Nat) (g736 : Nat) (E736 : Array MapEntry) (c736 : Nat) (A737 : Option Addr) (c737 : Nat) (d737 : List Value) (Γn1 : List Nat) (z733 : Zp), mb475 = [0, 1, 2, 3, 4].length - i475 ∧ i475 ≤ [0, 1, 2, 3, 4].length ∧ forL (go_law04_FilesRename.b1 p2 l10 l11) (fun (ar734, mp735, mp736, l737, x738, x739, b740, x741) => go_law04_FilesRename.j1 p2 l10 l11 ar734 mp735 mp736 l737 x738 x739 b740 x741) i475 ([0, 1, 2, 3, 4].drop i475) (ar734, mp735, mp736, l737, x738, x739, b740, x741) = some r ∧ e' = [(0, .slice A10 l10.length c10), (2, vu8 p2), (5, .pointer (some ⟨g5, 0, none⟩)), (9, .pointer (some ⟨g23, 0, none⟩)), (57, .slice A73 [0, 1, 2, 3, 4].length 5), (58, vi ([0, 1, 2, 3, 4].length : Int)), (59, vi (i475 : Int))] ∧ Le z65 z733 ∧ Le z0 z733 ∧ Le z6 z733 ∧ Ar1 z733 Γn1 ar734 Ha734 ∧ Mr (tA Γn1) pk1 z733 E735 c735 mp735 ∧ Mr (tA Γn1) pk1 z733 E736 c736 mp736 ∧ Cs (tSl (tfileschange Γn1)) z733 d737 l737 ∧ Γ1 <+: Γn1 ∧ Ht w0 (frz z733 :: (ob g735 (.map E735 c735)) :: (ob g736 (.map E736 c736)) :: (orow 78 1 (.slice A737 l737.length c737) l737.length d737) :: (orow 36 1 (.slice A73 [0, 1, 2, 3, 4].length 5) [0, 1, 2, 3, 4].length ([.func (.func 24) #[] #[.pointer (some ⟨g23, 0, none⟩)], .func (.func 25) #[] #[.pointer (some ⟨g23, 0, none⟩), .pointer (some ⟨g5, 0, none⟩)], .func (.func 26) #[] #[.pointer (some ⟨g23, 0, none⟩)], .func (.func 27) #[] #[.pointer (some ⟨g23, 0, none⟩)], .func (.func 19) #[.pointer (some ⟨g15, 0, none⟩)] #[]])) :: (blk g15 [.map (some g735), .map (some g736), .slice A737 l737.length c737, vi x738, vi x739, vb b740, vi x741] 68) :: (blk g23 [.pointer (some ⟨g15, 0, none⟩)] 25) :: (blk g5 [.slice A11 l11.length c11] 22) :: (Ha734 ++ X)) w')) [0, 1, 2, 3, 4].length ⟨0, y46.2.2, y65.now_, y65.safe_, y65.wait_, y65.room_, y65.left_, y65.down_, y65.calls_, Ha55, gm66, E66, c66, gm67, E67, c67, A68, c68, d68, Γ1, z65, rfl, Nat.zero_le _, hf, rfl, hm463, hle0, hm9, hA55, f66, f67, f68, hp464, (St.up (St.up (St.up (St.up (St.up (St.up (St.up (St.up hst73 7 rfl) 7 rfl) 4 rfl) 4 rfl) 7 rfl) 7 rfl) 7 rfl) 7 rfl)⟩ ?_
              rintro _ e' w743 ⟨i475, ar734, mp735, mp736, l737, x738, x739, b740, x741, Ha734, g735, E735, c735, g736, E736, c736, A737, c737, d737, Γ1, z733, rfl, hi475, hf, rfl, hz743, hy743_0, hy743_1, hA734, f735, f736, f737, hG1_742, hst743⟩
              replace f10 := f10.mono hz743; replace f73 := f73.mono hz743; replace f11 := f11.mono hz743
              replace hp14 := hp14.trans hG1_742; replace hp464 := hp464.trans hG1_742
              refine Run.seq ?_
              refine Run.region ?_
              refine Ops.ex (Ex.lss rfl rfl) rfl rfl rfl ?_
              refine Ops.nil ?_
              refine Run.seq ?_
              refine Run.cond rfl (fun hc => ?_) (fun hc => ?_)
              · have hl475 := lt_of_dec hc
                obtain ⟨a475, nxb475, ha475, hnxb475, hf⟩ := forL_in hf hl475
                unfold go_law04_FilesRename.b1 at hf
                try dsimp only at hf
                refine Run.skip ?_
                refine Run.seq ?_
                refine Run.block ?_
                refine Run.seq ?_
                refine Run.region ?_
                obtain ⟨g745, p745, o745, cs745, hA745, ho745, hr745, f745⟩ := own_elem f73 rfl (hst743.get (i := 4) rfl) (atI_nat ha475)
                obtain rfl := hr745
                refine Ops.ex (Ex.ixA hA745 ho745 (atI_nat ha475) rfl rfl rfl Try.underlying44 sz36) rfl rfl rfl ?_
                refine Ops.load rfl Try.underlying36 rfl ((f745 _ (hst743.get (i := 4) rfl)) 0 _ rfl) rfl ?_
                refine Ops.ex (Ex.assign rfl) rfl rfl rfl ?_
                refine Ops.nil ?_
                refine Run.seq ?_
                have hm797 := Le.refl z733
                have hp798 := List.prefix_rfl (l := Γ1)
                apply Run.jn (fun e' w' => ∃ (ar800 : List filesfile) (mp801 : Mp (Option Nat)) (mp802 : Mp (Option Nat)) (l803 : List (List fileschange)) (x804 : Int) (x805 : Int) (b806 : Bool) (x807 : Int) (b808 : Bool) (Ha800 : List Res) (g801 : Nat) (E801 : Array MapEntry) (c801 : Nat) (g802 : Nat) (E802 : Array MapEntry) (c802 : Nat) (A803 : Option Addr) (c803 : Nat) (d803 : List Value) (Γn1 : List Nat) (z799 : Zp), go_law04_FilesRename.j2 p2 l10 l11 nxb475 ar800 mp801 mp802 l803 x804 x805 b806 x807 b808 = some r ∧ e' = [(0, .slice A10 l10.length c10), (2, vu8 p2), (5, .pointer (some ⟨g5, 0, none⟩)), (9, .pointer (some ⟨g23, 0, none⟩)), (57, .slice A73 [0, 1, 2, 3, 4].length 5), (58, vi ([0, 1, 2, 3, 4].length : Int)), (59, vi (i475 : Int)), (65, vb b808)] ∧ Le z733 z799 ∧ Le z0 z799 ∧ Le z6 z799 ∧ Le z65 z799 ∧ Ar1 z799 Γn1 ar800 Ha800 ∧ Mr (tA Γn1) pk1 z799 E801 c801 mp801 ∧ Mr (tA Γn1) pk1 z799 E802 c802 mp802 ∧ Cs (tSl (tfileschange Γn1)) z799 d803 l803 ∧ Γ1 <+: Γn1 ∧ Ht w0 (frz z799 :: (ob g801 (.map E801 c801)) :: (ob g802 (.map E802 c802)) :: (orow 78 1 (.slice A803 l803.length c803) l803.length d803) :: (orow 36 1 (.slice A73 [0, 1, 2, 3, 4].length 5) [0, 1, 2, 3, 4].length ([.func (.func 24) #[] #[.pointer (some ⟨g23, 0, none⟩)], .func (.func 25) #[] #[.pointer (some ⟨g23, 0, none⟩), .pointer (some ⟨g5, 0, none⟩)], .func (.func 26) #[] #[.pointer (some ⟨g23, 0, none⟩)], .func (.func 27) #[] #[.pointer (some ⟨g23, 0, none⟩)], .func (.func 19) #[.pointer (some ⟨g15, 0, none⟩)] #[]])) :: (blk g15 [.map (some g801), .map (some g802), .slice A803 l803.length c803, vi x804, vi x805, vb b806, vi x807] 68) :: (blk g23 [.pointer (some ⟨g15, 0, none⟩)] 25) :: (blk g5 [.slice A11 l11.length c11] 22) :: (Ha800 ++ X)) w')
                · intro hj746
                  refine Run.region ?_
                  refine Ops.ex (Ex.move rfl) rfl rfl rfl ?_
                  by_cases hj810_0 : a475 = 0
                  · replace hf := ifT hj810_0 hf
                    refine Ops.reS 63 rfl (show fnV [(24, #[], #[.pointer (some ⟨g23, 0, none⟩)]), (25, #[], #[.pointer (some ⟨g23, 0, none⟩), .pointer (some ⟨g5, 0, none⟩)]), (26, #[], #[.pointer (some ⟨g23, 0, none⟩)]), (27, #[], #[.pointer (some ⟨g23, 0, none⟩)]), (19, #[.pointer (some ⟨g15, 0, none⟩)], #[])] a475 = .func (.func 24) #[] #[.pointer (some ⟨g23, 0, none⟩)] from by rw [hj810_0]; rfl) ?_
                    obtain ⟨y811, hy811, hf⟩ := bnd hf
                    refine Ops.call rfl rfl Try.func24 (by kernel_rfl) (by kernel_rfl) rfl (go_law04_FilesRename_c1.walk (Γ1 := Γ1) (q0 := (⟨mp735, mp736, l737, x738, x739, b740, x741⟩ : filesDisk)) (ar1 := ar734) (hst := (St.mid (B := [blk g23 [.pointer (some ⟨g15, 0, none⟩)] 25, blk g15 [.map (some g735), .map (some g736), .slice A737 l737.length c737, vi x738, vi x739, vb b740, vi x741] 68, ob g735 (.map E735 c735), ob g736 (.map E736 c736), orow 78 1 (.slice A737 l737.length c737) l737.length d737]) (M := [orow 36 1 (.slice A73 [0, 1, 2, 3, 4].length 5) [0, 1, 2, 3, 4].length ([.func (.func 24) #[] #[.pointer (some ⟨g23, 0, none⟩)], .func (.func 25) #[] #[.pointer (some ⟨g23, 0, none⟩), .pointer (some ⟨g5, 0, none⟩)], .func (.func 26) #[] #[.pointer (some ⟨g23, 0, none⟩)], .func (.func 27) #[] #[.pointer (some ⟨g23, 0, none⟩)], .func (.func 19) #[.pointer (some ⟨g15, 0, none⟩)] #[]]), blk g5 [.slice A11 l11.length c11] 22]) (Ha := Ha734) (St.up (St.up (St.up (St.up (St.up (St.up (St.up (St.up hst743 7 rfl) 5 rfl) 5 rfl) 5 rfl) 5 rfl) 6 rfl) 7 rfl) 7 rfl))) (f1 := f735) (f2 := f736) (f3 := f737) (hA1 := hA734) (Ha1 := Ha734) (hf := hy811)) ?_
                    rintro _ w811 ⟨z811, gm813, E813, c813, gm814, E814, c814, A815, c815, d815, Ha820, Γ1, rfl, hz811, f813, f814, f815, hA820, hG1_821, hst811⟩
                    replace hst811 : Ht w0 (frz z811 :: (blk g23 [.pointer (some ⟨g15, 0, none⟩)] 25) :: (blk g15 [.map (some gm813), .map (some gm814), .slice A815 y811.2.1.wait_.length c815, vi y811.2.1.room_, vi y811.2.1.left_, vb y811.2.1.down_, vi y811.2.1.calls_] 68) :: (ob gm813 (.map E813 c813)) :: (ob gm814 (.map E814 c814)) :: (orow 78 1 (.slice A815 y811.2.1.wait_.length c815) y811.2.1.wait_.length d815) :: (orow 36 1 (.slice A73 [0, 1, 2, 3, 4].length 5) [0, 1, 2, 3, 4].length ([.func (.func 24) #[] #[.pointer (some ⟨g23, 0, none⟩)], .func (.func 25) #[] #[.pointer (some ⟨g23, 0, none⟩), .pointer (some ⟨g5, 0, none⟩)], .func (.func 26) #[] #[.pointer (some ⟨g23, 0, none⟩)], .func (.func 27) #[] #[.pointer (some ⟨g23, 0, none⟩)], .func (.func 19) #[.pointer (some ⟨g15, 0, none⟩)] #[]])) :: (blk g5 [.slice A11 l11.length c11] 22) :: (Ha820 ++ X)) _ := St.mid (B := [blk g23 [.pointer (some ⟨g15, 0, none⟩)] 25, blk g15 [.map (some gm813), .map (some gm814), .slice A815 y811.2.1.wait_.length c815, vi y811.2.1.room_, vi y811.2.1.left_, vb y811.2.1.down_, vi y811.2.1.calls_] 68, ob gm813 (.map E813 c813), ob gm814 (.map E814 c814), orow 78 1 (.slice A815 y811.2.1.wait_.length c815) y811.2.1.wait_.length d815]) (M := Ha820) (Ha := [orow 36 1 (.slice A73 [0, 1, 2, 3, 4].length 5) [0, 1, 2, 3, 4].length ([.func (.func 24) #[] #[.pointer (some ⟨g23, 0, none⟩)], .func (.func 25) #[] #[.pointer (some ⟨g23, 0, none⟩), .pointer (some ⟨g5, 0, none⟩)], .func (.func 26) #[] #[.pointer (some ⟨g23, 0, none⟩)], .func (.func 27) #[] #[.pointer (some ⟨g23, 0, none⟩)], .func (.func 19) #[.pointer (some ⟨g15, 0, none⟩)] #[]]), blk g5 [.slice A11 l11.length c11] 22]) hst811
                    refine ⟨_, rfl, ?_⟩
                    replace f10 := f10.mono hz811; replace f73 := f73.mono hz811; replace f11 := f11.mono hz811
                    replace hy743_0 := hy743_0.trans hz811
                    replace hy743_1 := hy743_1.trans hz811
                    replace hz743 := hz743.trans hz811
                    replace hm797 := hm797.trans hz811
                    replace hp14 := hp14.trans hG1_821
                    replace hp464 := hp464.trans hG1_821
                    replace hp798 := hp798.trans hG1_821
                    refine Ops.ex (Ex.neqI rfl rfl) rfl rfl rfl ?_
                    refine Ops.nil ?_
                    exact Run.sub (by exact subB_spec ⟨rfl, rfl, rfl, rfl, rfl, rfl, rfl, rfl, trivial⟩) (hj746 _ _ ⟨y811.2.2, y811.2.1.now_, y811.2.1.safe_, y811.2.1.wait_, y811.2.1.room_, y811.2.1.left_, y811.2.1.down_, y811.2.1.calls_, !(decide (y811.1 = 0)), Ha820, gm813, E813, c813, gm814, E814, c814, A815, c815, d815, Γ1, z811, hf, rfl, hm797, hy743_0, hy743_1, hz743, hA820, f813, f814, f815, hp798, (St.up (St.up (St.up (St.up (St.up (St.up (St.up (St.up hst811 7 rfl) 2 rfl) 3 rfl) 7 rfl) 7 rfl) 7 rfl) 7 rfl) 7 rfl)⟩)
                  · replace hf := ifF hj810_0 hf
                    by_cases hj810_1 : a475 = 1
                    · replace hf := ifT hj810_1 hf
                      refine Ops.reS 63 rfl (show fnV [(24, #[], #[.pointer (some ⟨g23, 0, none⟩)]), (25, #[], #[.pointer (some ⟨g23, 0, none⟩), .pointer (some ⟨g5, 0, none⟩)]), (26, #[], #[.pointer (some ⟨g23, 0, none⟩)]), (27, #[], #[.pointer (some ⟨g23, 0, none⟩)]), (19, #[.pointer (some ⟨g15, 0, none⟩)], #[])] a475 = .func (.func 25) #[] #[.pointer (some ⟨g23, 0, none⟩), .pointer (some ⟨g5, 0, none⟩)] from by rw [hj810_1]; rfl) ?_
                      obtain ⟨y822, hy822, hf⟩ := bnd hf
                      refine Ops.call rfl rfl Try.func25 (by kernel_rfl) (by kernel_rfl) rfl (go_law04_FilesRename_c2.walk (Γ1 := Γ1) (q0 := (⟨mp735, mp736, l737, x738, x739, b740, x741⟩ : filesDisk)) (q1 := l11) (ar1 := ar734) (hst := (St.mid (B := [blk g23 [.pointer (some ⟨g15, 0, none⟩)] 25, blk g15 [.map (some g735), .map (some g736), .slice A737 l737.length c737, vi x738, vi x739, vb b740, vi x741] 68, ob g735 (.map E735 c735), ob g736 (.map E736 c736), orow 78 1 (.slice A737 l737.length c737) l737.length d737, blk g5 [.slice A11 l11.length c11] 22]) (M := [orow 36 1 (.slice A73 [0, 1, 2, 3, 4].length 5) [0, 1, 2, 3, 4].length ([.func (.func 24) #[] #[.pointer (some ⟨g23, 0, none⟩)], .func (.func 25) #[] #[.pointer (some ⟨g23, 0, none⟩), .pointer (some ⟨g5, 0, none⟩)], .func (.func 26) #[] #[.pointer (some ⟨g23, 0, none⟩)], .func (.func 27) #[] #[.pointer (some ⟨g23, 0, none⟩)], .func (.func 19) #[.pointer (some ⟨g15, 0, none⟩)] #[]])]) (Ha := Ha734) (St.up (St.up (St.up (St.up (St.up (St.up (St.up (St.up hst743 4 rfl) 7 rfl) 5 rfl) 5 rfl) 5 rfl) 6 rfl) 7 rfl) 7 rfl))) (f1 := f735) (f2 := f736) (f3 := f737) (f8 := f11) (hA1 := hA734) (Ha1 := Ha734) (hf := hy822)) ?_
                      rintro _ w822 ⟨z822, gm824, E824, c824, gm825, E825, c825, A826, c826, d826, Ha831, rfl, hz822, f824, f825, f826, hA831, hst822⟩
                      replace hst822 : Ht w0 (frz z822 :: (blk g23 [.pointer (some ⟨g15, 0, none⟩)] 25) :: (blk g15 [.map (some gm824), .map (some gm825), .slice A826 y822.2.1.wait_.length c826, vi y822.2.1.room_, vi y822.2.1.left_, vb y822.2.1.down_, vi y822.2.1.calls_] 68) :: (ob gm824 (.map E824 c824)) :: (ob gm825 (.map E825 c825)) :: (orow 78 1 (.slice A826 y822.2.1.wait_.length c826) y822.2.1.wait_.length d826) :: (blk g5 [.slice A11 l11.length c11] 22) :: (orow 36 1 (.slice A73 [0, 1, 2, 3, 4].length 5) [0, 1, 2, 3, 4].length ([.func (.func 24) #[] #[.pointer (some ⟨g23, 0, none⟩)], .func (.func 25) #[] #[.pointer (some ⟨g23, 0, none⟩), .pointer (some ⟨g5, 0, none⟩)], .func (.func 26) #[] #[.pointer (some ⟨g23, 0, none⟩)], .func (.func 27) #[] #[.pointer (some ⟨g23, 0, none⟩)], .func (.func 19) #[.pointer (some ⟨g15, 0, none⟩)] #[]])) :: (Ha831 ++ X)) _ := St.mid (B := [blk g23 [.pointer (some ⟨g15, 0, none⟩)] 25, blk g15 [.map (some gm824), .map (some gm825), .slice A826 y822.2.1.wait_.length c826, vi y822.2.1.room_, vi y822.2.1.left_, vb y822.2.1.down_, vi y822.2.1.calls_] 68, ob gm824 (.map E824 c824), ob gm825 (.map E825 c825), orow 78 1 (.slice A826 y822.2.1.wait_.length c826) y822.2.1.wait_.length d826, blk g5 [.slice A11 l11.length c11] 22]) (M := Ha831) (Ha := [orow 36 1 (.slice A73 [0, 1, 2, 3, 4].length 5) [0, 1, 2, 3, 4].length ([.func (.func 24) #[] #[.pointer (some ⟨g23, 0, none⟩)], .func (.func 25) #[] #[.pointer (some ⟨g23, 0, none⟩), .pointer (some ⟨g5, 0, none⟩)], .func (.func 26) #[] #[.pointer (some ⟨g23, 0, none⟩)], .func (.func 27) #[] #[.pointer (some ⟨g23, 0, none⟩)], .func (.func 19) #[.pointer (some ⟨g15, 0, none⟩)] #[]])]) hst822
                      refine ⟨_, rfl, ?_⟩
                      replace f10 := f10.mono hz822; replace f11 := f11.mono hz822; replace f73 := f73.mono hz822
                      replace hy743_0 := hy743_0.trans hz822
                      replace hy743_1 := hy743_1.trans hz822
                      replace hz743 := hz743.trans hz822
                      replace hm797 := hm797.trans hz822
                      refine Ops.ex (Ex.neqI rfl rfl) rfl rfl rfl ?_
                      refine Ops.nil ?_
                      exact Run.sub (by exact subB_spec ⟨rfl, rfl, rfl, rfl, rfl, rfl, rfl, rfl, trivial⟩) (hj746 _ _ ⟨y822.2.2, y822.2.1.now_, y822.2.1.safe_, y822.2.1.wait_, y822.2.1.room_, y822.2.1.left_, y822.2.1.down_, y822.2.1.calls_, !(decide (y822.1 = 0)), Ha831, gm824, E824, c824, gm825, E825, c825, A826, c826, d826, Γ1, z822, hf, rfl, hm797, hy743_0, hy743_1, hz743, hA831, f824, f825, f826, hp798, (St.up (St.up (St.up (St.up (St.up (St.up (St.up (St.up hst822 6 rfl) 2 rfl) 3 rfl) 7 rfl) 7 rfl) 7 rfl) 7 rfl) 7 rfl)⟩)
                    · replace hf := ifF hj810_1 hf
                      by_cases hj810_2 : a475 = 2
                      · replace hf := ifT hj810_2 hf
                        refine Ops.reS 63 rfl (show fnV [(24, #[], #[.pointer (some ⟨g23, 0, none⟩)]), (25, #[], #[.pointer (some ⟨g23, 0, none⟩), .pointer (some ⟨g5, 0, none⟩)]), (26, #[], #[.pointer (some ⟨g23, 0, none⟩)]), (27, #[], #[.pointer (some ⟨g23, 0, none⟩)]), (19, #[.pointer (some ⟨g15, 0, none⟩)], #[])] a475 = .func (.func 26) #[] #[.pointer (some ⟨g23, 0, none⟩)] from by rw [hj810_2]; rfl) ?_
                        obtain ⟨y832, hy832, hf⟩ := bnd hf
                        refine Ops.call rfl rfl Try.func26 (by kernel_rfl) (by kernel_rfl) rfl (go_law04_FilesRename_c3.walk (Γ1 := Γ1) (q0 := (⟨mp735, mp736, l737, x738, x739, b740, x741⟩ : filesDisk)) (ar1 := ar734) (hst := (St.mid (B := [blk g23 [.pointer (some ⟨g15, 0, none⟩)] 25, blk g15 [.map (some g735), .map (some g736), .slice A737 l737.length c737, vi x738, vi x739, vb b740, vi x741] 68, ob g735 (.map E735 c735), ob g736 (.map E736 c736), orow 78 1 (.slice A737 l737.length c737) l737.length d737]) (M := [orow 36 1 (.slice A73 [0, 1, 2, 3, 4].length 5) [0, 1, 2, 3, 4].length ([.func (.func 24) #[] #[.pointer (some ⟨g23, 0, none⟩)], .func (.func 25) #[] #[.pointer (some ⟨g23, 0, none⟩), .pointer (some ⟨g5, 0, none⟩)], .func (.func 26) #[] #[.pointer (some ⟨g23, 0, none⟩)], .func (.func 27) #[] #[.pointer (some ⟨g23, 0, none⟩)], .func (.func 19) #[.pointer (some ⟨g15, 0, none⟩)] #[]]), blk g5 [.slice A11 l11.length c11] 22]) (Ha := Ha734) (St.up (St.up (St.up (St.up (St.up (St.up (St.up (St.up hst743 7 rfl) 5 rfl) 5 rfl) 5 rfl) 5 rfl) 6 rfl) 7 rfl) 7 rfl))) (f1 := f735) (f2 := f736) (f3 := f737) (hA1 := hA734) (Ha1 := Ha734) (hf := hy832)) ?_
                        rintro _ w832 ⟨z832, gm834, E834, c834, gm835, E835, c835, A836, c836, d836, Ha841, rfl, hz832, f834, f835, f836, hA841, hst832⟩
                        replace hst832 : Ht w0 (frz z832 :: (blk g23 [.pointer (some ⟨g15, 0, none⟩)] 25) :: (blk g15 [.map (some gm834), .map (some gm835), .slice A836 y832.2.1.wait_.length c836, vi y832.2.1.room_, vi y832.2.1.left_, vb y832.2.1.down_, vi y832.2.1.calls_] 68) :: (ob gm834 (.map E834 c834)) :: (ob gm835 (.map E835 c835)) :: (orow 78 1 (.slice A836 y832.2.1.wait_.length c836) y832.2.1.wait_.length d836) :: (orow 36 1 (.slice A73 [0, 1, 2, 3, 4].length 5) [0, 1, 2, 3, 4].length ([.func (.func 24) #[] #[.pointer (some ⟨g23, 0, none⟩)], .func (.func 25) #[] #[.pointer (some ⟨g23, 0, none⟩), .pointer (some ⟨g5, 0, none⟩)], .func (.func 26) #[] #[.pointer (some ⟨g23, 0, none⟩)], .func (.func 27) #[] #[.pointer (some ⟨g23, 0, none⟩)], .func (.func 19) #[.pointer (some ⟨g15, 0, none⟩)] #[]])) :: (blk g5 [.slice A11 l11.length c11] 22) :: (Ha841 ++ X)) _ := St.mid (B := [blk g23 [.pointer (some ⟨g15, 0, none⟩)] 25, blk g15 [.map (some gm834), .map (some gm835), .slice A836 y832.2.1.wait_.length c836, vi y832.2.1.room_, vi y832.2.1.left_, vb y832.2.1.down_, vi y832.2.1.calls_] 68, ob gm834 (.map E834 c834), ob gm835 (.map E835 c835), orow 78 1 (.slice A836 y832.2.1.wait_.length c836) y832.2.1.wait_.length d836]) (M := Ha841) (Ha := [orow 36 1 (.slice A73 [0, 1, 2, 3, 4].length 5) [0, 1, 2, 3, 4].length ([.func (.func 24) #[] #[.pointer (some ⟨g23, 0, none⟩)], .func (.func 25) #[] #[.pointer (some ⟨g23, 0, none⟩), .pointer (some ⟨g5, 0, none⟩)], .func (.func 26) #[] #[.pointer (some ⟨g23, 0, none⟩)], .func (.func 27) #[] #[.pointer (some ⟨g23, 0, none⟩)], .func (.func 19) #[.pointer (some ⟨g15, 0, none⟩)] #[]]), blk g5 [.slice A11 l11.length c11] 22]) hst832
                        refine ⟨_, rfl, ?_⟩
                        replace f10 := f10.mono hz832; replace f73 := f73.mono hz832; replace f11 := f11.mono hz832
                        replace hy743_0 := hy743_0.trans hz832
                        replace hy743_1 := hy743_1.trans hz832
                        replace hz743 := hz743.trans hz832
                        replace hm797 := hm797.trans hz832
                        refine Ops.ex (Ex.neqI rfl rfl) rfl rfl rfl ?_
                        refine Ops.nil ?_
                        exact Run.sub (by exact subB_spec ⟨rfl, rfl, rfl, rfl, rfl, rfl, rfl, rfl, trivial⟩) (hj746 _ _ ⟨y832.2.2, y832.2.1.now_, y832.2.1.safe_, y832.2.1.wait_, y832.2.1.room_, y832.2.1.left_, y832.2.1.down_, y832.2.1.calls_, !(decide (y832.1 = 0)), Ha841, gm834, E834, c834, gm835, E835, c835, A836, c836, d836, Γ1, z832, hf, rfl, hm797, hy743_0, hy743_1, hz743, hA841, f834, f835, f836, hp798, (St.up (St.up (St.up (St.up (St.up (St.up (St.up (St.up hst832 7 rfl) 2 rfl) 3 rfl) 7 rfl) 7 rfl) 7 rfl) 7 rfl) 7 rfl)⟩)
                      · replace hf := ifF hj810_2 hf
                        by_cases hj810_3 : a475 = 3
                        · replace hf := ifT hj810_3 hf
                          refine Ops.reS 63 rfl (show fnV [(24, #[], #[.pointer (some ⟨g23, 0, none⟩)]), (25, #[], #[.pointer (some ⟨g23, 0, none⟩), .pointer (some ⟨g5, 0, none⟩)]), (26, #[], #[.pointer (some ⟨g23, 0, none⟩)]), (27, #[], #[.pointer (some ⟨g23, 0, none⟩)]), (19, #[.pointer (some ⟨g15, 0, none⟩)], #[])] a475 = .func (.func 27) #[] #[.pointer (some ⟨g23, 0, none⟩)] from by rw [hj810_3]; rfl) ?_
                          obtain ⟨y842, hy842, hf⟩ := bnd hf
                          refine Ops.call rfl rfl Try.func27 (by kernel_rfl) (by kernel_rfl) rfl (go_law04_FilesRename_c4.walk (Γ1 := Γ1) (q0 := (⟨mp735, mp736, l737, x738, x739, b740, x741⟩ : filesDisk)) (hst := (St.up (St.up (St.up (St.up (St.up (St.up (St.up (St.up hst743 7 rfl) 5 rfl) 5 rfl) 5 rfl) 5 rfl) 6 rfl) 7 rfl) 7 rfl)) (f1 := f735) (f2 := f736) (f3 := f737) (hf := hy842)) ?_
                          rintro _ w842 ⟨z842, gm844, E844, c844, gm845, E845, c845, A846, c846, d846, rfl, hz842, f844, f845, f846, hst842⟩
                          refine ⟨_, rfl, ?_⟩
                          replace f10 := f10.mono hz842; replace f73 := f73.mono hz842; replace f11 := f11.mono hz842; replace hA734 := hA734.mono hz842
                          replace hy743_0 := hy743_0.trans hz842
                          replace hy743_1 := hy743_1.trans hz842
                          replace hz743 := hz743.trans hz842
                          replace hm797 := hm797.trans hz842
                          refine Ops.ex (Ex.neqI rfl rfl) rfl rfl rfl ?_
                          refine Ops.nil ?_
                          exact Run.sub (by exact subB_spec ⟨rfl, rfl, rfl, rfl, rfl, rfl, rfl, rfl, trivial⟩) (hj746 _ _ ⟨ar734, y842.2.now_, y842.2.safe_, y842.2.wait_, y842.2.room_, y842.2.left_, y842.2.down_, y842.2.calls_, !(decide (y842.1 = 0)), Ha734, gm844, E844, c844, gm845, E845, c845, A846, c846, d846, Γ1, z842, hf, rfl, hm797, hy743_0, hy743_1, hz743, hA734, f844, f845, f846, hp798, (St.up (St.up (St.up (St.up (St.up (St.up (St.up (St.up hst842 7 rfl) 2 rfl) 3 rfl) 7 rfl) 7 rfl) 7 rfl) 7 rfl) 7 rfl)⟩)
                        · replace hf := ifF hj810_3 hf
                          by_cases hj810_4 : a475 = 4
                          · replace hf := ifT hj810_4 hf
                            refine Ops.reS 63 rfl (show fnV [(24, #[], #[.pointer (some ⟨g23, 0, none⟩)]), (25, #[], #[.pointer (some ⟨g23, 0, none⟩), .pointer (some ⟨g5, 0, none⟩)]), (26, #[], #[.pointer (some ⟨g23, 0, none⟩)]), (27, #[], #[.pointer (some ⟨g23, 0, none⟩)]), (19, #[.pointer (some ⟨g15, 0, none⟩)], #[])] a475 = .func (.func 19) #[.pointer (some ⟨g15, 0, none⟩)] #[] from by rw [hj810_4]; rfl) ?_
                            obtain ⟨y851, hy851, hf⟩ := bnd hf
                            refine Ops.call1 rfl rfl Try.func19 (by kernel_rfl) (by kernel_rfl) rfl (go_files_Disk_SyncDir.walk (Γ1 := Γ1) (p0 := (⟨mp735, mp736, l737, x738, x739, b740, x741⟩ : filesDisk)) (hst := (St.up (St.up (St.up (St.up (St.up (St.up (St.up (St.up hst743 7 rfl) 7 rfl) 6 rfl) 6 rfl) 6 rfl) 6 rfl) 7 rfl) 7 rfl)) (f1 := f735) (f2 := f736) (f3 := f737) (hf := hy851)) ?_
                            rintro _ w851 ⟨z851, gm853, E853, c853, gm854, E854, c854, A855, c855, d855, rfl, hz851, f853, f854, f855, hst851⟩
                            refine ⟨_, rfl, ?_⟩
                            replace f10 := f10.mono hz851; replace f73 := f73.mono hz851; replace f11 := f11.mono hz851; replace hA734 := hA734.mono hz851
                            replace hy743_0 := hy743_0.trans hz851
                            replace hy743_1 := hy743_1.trans hz851
                            replace hz743 := hz743.trans hz851
                            replace hm797 := hm797.trans hz851
                            refine Ops.ex (Ex.neqI rfl rfl) rfl rfl rfl ?_
                            refine Ops.nil ?_
                            exact Run.sub (by exact subB_spec ⟨rfl, rfl, rfl, rfl, rfl, rfl, rfl, rfl, trivial⟩) (hj746 _ _ ⟨ar734, y851.2.now_, y851.2.safe_, y851.2.wait_, y851.2.room_, y851.2.left_, y851.2.down_, y851.2.calls_, !(decide (y851.1 = 0)), Ha734, gm853, E853, c853, gm854, E854, c854, A855, c855, d855, Γ1, z851, hf, rfl, hm797, hy743_0, hy743_1, hz743, hA734, f853, f854, f855, hp798, (St.up (St.up (St.up (St.up (St.up (St.up (St.up (St.up hst851 7 rfl) 7 rfl) 3 rfl) 7 rfl) 7 rfl) 7 rfl) 7 rfl) 7 rfl)⟩)
                          · replace hf := ifF hj810_4 hf
                            cases hf
                · rintro e' w860 ⟨ar800, mp801, mp802, l803, x804, x805, b806, x807, b808, Ha800, g801, E801, c801, g802, E802, c802, A803, c803, d803, Γ1, z799, hf, rfl, hz860, hy860_0, hy860_1, hy860_2, hA800, f801, f802, f803, hG1_809, hst860⟩
                  replace f10 := f10.mono hz860; replace f73 := f73.mono hz860; replace f11 := f11.mono hz860
                  replace hp14 := hp14.trans hG1_809; replace hp464 := hp464.trans hG1_809; replace hp798 := hp798.trans hG1_809
                  unfold go_law04_FilesRename.j2 at hf
                  refine Run.cond rfl (fun hc => ?_) (fun hc => ?_)
                  · replace hf := ifTb hc hf
                    refine Run.exit _ rfl ?_
                    exact Run.sub (by exact subB_spec ⟨rfl, rfl, rfl, rfl, trivial⟩) (hj74 _ _ ⟨ar800, mp801, mp802, l803, x804, x805, b806, x807, Ha800, g801, E801, c801, g802, E802, c802, A803, c803, d803, Γ1, z799, hf, rfl, hy860_2, hy860_0, hy860_1, hA800, f801, f802, f803, hp464, (St.forget hst860 4)⟩)
                  · replace hf := ifFb hc hf
                    refine Run.skip ?_
                    refine Run.endBlk ?_
                    refine Run.region ?_
                    refine Ops.ex (Ex.add rfl rfl) rfl rfl rfl ?_
                    refine Ops.ex (Ex.move rfl) rfl rfl rfl ?_
                    refine Ops.nil ?_
                    refine Run.re 59 rfl (congrArg vi (wr_succ' hl475 hc475)) ?_
                    exact Run.sub (by exact subB_spec ⟨rfl, rfl, rfl, rfl, rfl, rfl, rfl, trivial⟩) (Run.stop ⟨[0, 1, 2, 3, 4].length - (i475 + 1), by omega, i475 + 1, ar800, mp801, mp802, l803, x804, x805, b806, x807, Ha800, g801, E801, c801, g802, E802, c802, A803, c803, d803, Γ1, z799, rfl, by omega, (hnxb475 _).symm.trans hf, rfl, hy860_2, hy860_0, hy860_1, hA800, f801, f802, f803, hp464, hst860⟩)
              · replace hf := forL_out hf (nlt_of_dec hc)
                try dsimp only at hf
                refine Run.exit _ rfl ?_
                exact Run.sub (by exact subB_spec ⟨rfl, rfl, rfl, rfl, trivial⟩) (hj74 _ _ ⟨ar734, mp735, mp736, l737, x738, x739, b740, x741, Ha734, g735, E735, c735, g736, E736, c736, A737, c737, d737, Γ1, z733, hf, rfl, hz743, hy743_0, hy743_1, hA734, f735, f736, f737, hp464, (St.forget hst743 4)⟩)
            · rintro e' w861 ⟨ar466, mp467, mp468, l469, x470, x471, b472, x473, Ha466, g467, E467, c467, g468, E468, c468, A469, c469, d469, Γ1, z465, hf, rfl, hz861, hy861_0, hy861_1, hA466, f467, f468, f469, hG1_474, hst861⟩
              replace f10 := f10.mono hz861; replace f11 := f11.mono hz861
              replace hp14 := hp14.trans hG1_474; replace hp464 := hp464.trans hG1_474
              unfold go_law04_FilesRename.j1 at hf
              refine Run.seq ?_
              refine Run.region ?_
              refine Ops.load rfl Try.underlying25 rfl (hst861.cell (i := 5) rfl rfl) rfl ?_
              refine Ops.ex (Ex.move rfl) rfl rfl rfl ?_
              refine Ops.ex (Ex.rem8 (a := p2) (b := 5) rfl rfl (by decide)) rfl rfl rfl ?_
              refine Ops.ex (Ex.cu8 rfl Try.underlying5 Try.underlying3) rfl rfl rfl ?_
              obtain ⟨y862, hy862, hf⟩ := bnd hf
              refine Ops.call rfl rfl Try.func20 (by kernel_rfl) (by kernel_rfl) rfl (go_files_Disk_Restart.walk (Γ1 := Γ1) (p0 := (⟨mp467, mp468, l469, x470, x471, b472, x473⟩ : filesDisk)) (p1 := ((p2 % 5).toNat : Int)) (p2 := 0) (ar1 := ar466) (hst := (St.mid (B := [blk g15 [.map (some g467), .map (some g468), .slice A469 l469.length c469, vi x470, vi x471, vb b472, vi x473] 68, ob g467 (.map E467 c467), ob g468 (.map E468 c468), orow 78 1 (.slice A469 l469.length c469) l469.length d469]) (M := [blk g23 [.pointer (some ⟨g15, 0, none⟩)] 25, blk g5 [.slice A11 l11.length c11] 22]) (Ha := Ha466) (St.up (St.up (St.up (St.up (St.up (St.up (St.up hst861 6 rfl) 6 rfl) 5 rfl) 5 rfl) 5 rfl) 6 rfl) 6 rfl))) (f1 := f467) (f2 := f468) (f3 := f469) (hA1 := hA466) (Ha1 := Ha466) (hf := hy862)) ?_
              rintro _ w862 ⟨z862, gm863, E863, c863, gm864, E864, c864, A865, c865, d865, Ha870, rfl, hz862, f863, f864, f865, hA870, hst862⟩
              replace hst862 : Ht w0 (frz z862 :: (blk g15 [.map (some gm863), .map (some gm864), .slice A865 y862.1.wait_.length c865, vi y862.1.room_, vi y862.1.left_, vb y862.1.down_, vi y862.1.calls_] 68) :: (ob gm863 (.map E863 c863)) :: (ob gm864 (.map E864 c864)) :: (orow 78 1 (.slice A865 y862.1.wait_.length c865) y862.1.wait_.length d865) :: (blk g23 [.pointer (some ⟨g15, 0, none⟩)] 25) :: (blk g5 [.slice A11 l11.length c11] 22) :: (Ha870 ++ X)) _ := St.mid (B := [blk g15 [.map (some gm863), .map (some gm864), .slice A865 y862.1.wait_.length c865, vi y862.1.room_, vi y862.1.left_, vb y862.1.down_, vi y862.1.calls_] 68, ob gm863 (.map E863 c863), ob gm864 (.map E864 c864), orow 78 1 (.slice A865 y862.1.wait_.length c865) y862.1.wait_.length d865]) (M := Ha870) (Ha := [blk g23 [.pointer (some ⟨g15, 0, none⟩)] 25, blk g5 [.slice A11 l11.length c11] 22]) hst862
              refine ⟨_, rfl, ?_⟩
              replace f10 := f10.mono hz862; replace f11 := f11.mono hz862
              replace hy861_0 := hy861_0.trans hz862
              replace hy861_1 := hy861_1.trans hz862
              replace hz861 := hz861.trans hz862
              refine Ops.nil ?_
              refine Run.seq ?_
              refine Run.region ?_
              refine Ops.load rfl Try.underlying25 rfl (hst862.cell (i := 5) rfl rfl) rfl ?_
              obtain ⟨y871, hy871, hf⟩ := bnd hf
              refine Ops.call rfl rfl Try.func16 (by kernel_rfl) (by kernel_rfl) rfl (go_files_Disk_Read.walk (Γ1 := Γ1) (p0 := y862.1) (p1 := [120]) (ar1 := y862.2) (hst := (St.mid (B := [blk g15 [.map (some gm863), .map (some gm864), .slice A865 y862.1.wait_.length c865, vi y862.1.room_, vi y862.1.left_, vb y862.1.down_, vi y862.1.calls_] 68, ob gm863 (.map E863 c863), ob gm864 (.map E864 c864), orow 78 1 (.slice A865 y862.1.wait_.length c865) y862.1.wait_.length d865]) (M := [blk g23 [.pointer (some ⟨g15, 0, none⟩)] 25, blk g5 [.slice A11 l11.length c11] 22]) (Ha := Ha870) hst862)) (f1 := f863) (f2 := f864) (f3 := f865) (hA1 := hA870) (Ha1 := Ha870) (hf := hy871)) ?_
              rintro _ w871 ⟨z871, A872, c872, d872, Ha874, rfl, hz871, f872, hA874, hst871⟩
              replace hst871 : Ht w0 (frz z871 :: (blk g15 [.map (some gm863), .map (some gm864), .slice A865 y862.1.wait_.length c865, vi y862.1.room_, vi y862.1.left_, vb y862.1.down_, vi y862.1.calls_] 68) :: (ob gm863 (.map E863 c863)) :: (ob gm864 (.map E864 c864)) :: (orow 78 1 (.slice A865 y862.1.wait_.length c865) y862.1.wait_.length d865) :: (orow 5 1 (.slice A872 y871.1.length c872) y871.1.length d872) :: (blk g23 [.pointer (some ⟨g15, 0, none⟩)] 25) :: (blk g5 [.slice A11 l11.length c11] 22) :: (Ha874 ++ X)) _ := St.mid (B := [blk g15 [.map (some gm863), .map (some gm864), .slice A865 y862.1.wait_.length c865, vi y862.1.room_, vi y862.1.left_, vb y862.1.down_, vi y862.1.calls_] 68, ob gm863 (.map E863 c863), ob gm864 (.map E864 c864), orow 78 1 (.slice A865 y862.1.wait_.length c865) y862.1.wait_.length d865, orow 5 1 (.slice A872 y871.1.length c872) y871.1.length d872]) (M := Ha874) (Ha := [blk g23 [.pointer (some ⟨g15, 0, none⟩)] 25, blk g5 [.slice A11 l11.length c11] 22]) hst871
              refine ⟨_, rfl, ?_⟩
              replace f10 := f10.mono hz871; replace f863 := f863.mono hz871; replace f864 := f864.mono hz871; replace f865 := f865.mono hz871; replace f11 := f11.mono hz871
              replace hy861_0 := hy861_0.trans hz871
              replace hy861_1 := hy861_1.trans hz871
              replace hz861 := hz861.trans hz871
              refine Ops.ex (Ex.move rfl) rfl rfl rfl ?_
              refine Ops.ex (Ex.extract rfl rfl) rfl rfl rfl ?_
              refine Ops.ex (Ex.extract rfl rfl) rfl rfl rfl ?_
              refine Ops.ex (Ex.assign rfl) rfl rfl rfl ?_
              refine Ops.ex (Ex.assign rfl) rfl rfl rfl ?_
              refine Ops.nil ?_
              refine Run.seq ?_
              refine Run.region ?_
              refine Ops.ex (Ex.move rfl) rfl rfl rfl ?_
              refine Ops.ex (Ex.eqlI rfl rfl) rfl rfl rfl ?_
              refine Ops.ex (Ex.move rfl) rfl rfl rfl ?_
              refine Ops.case 79 rfl (fun hc => ?_) (fun hc => ?_)
              · replace hf := ifT (dec_T hc) hf
                refine Ops.on rfl ?_
                refine Ops.ex (Ex.move rfl) rfl rfl rfl ?_
                refine Ops.on rfl ?_
                refine Ops.str8 (own_slh f872 rfl (hst871.get (i := 5) rfl)) rfl Try.underlying22 Try.underlying5 Try.underlying9 rfl (?_)
                refine Ops.on rfl ?_
                refine Ops.ex (Ex.move rfl) rfl rfl rfl ?_
                refine Ops.on rfl ?_
                refine Ops.str8 (f10.at_ hst871) rfl Try.underlying22 Try.underlying5 Try.underlying9 rfl (?_)
                refine Ops.on rfl ?_
                refine Ops.ex (Ex.eqlT rfl rfl) rfl rfl rfl ?_
                refine Ops.on rfl ?_
                refine Ops.ex (Ex.move rfl) rfl rfl rfl ?_
                refine Ops.case 85 rfl (fun hc => ?_) (fun hc => ?_)
                · replace hf := ifT (dec_T hc) hf
                  refine Ops.off rfl rfl ?_
                  refine Ops.off rfl rfl ?_
                  refine Ops.off rfl rfl ?_
                  refine Ops.off rfl rfl ?_
                  refine Ops.off rfl rfl ?_
                  refine Ops.on rfl ?_
                  refine Ops.ex (Ex.pickT rfl rfl) rfl rfl rfl ?_
                  refine Ops.ex (Ex.pickT rfl rfl) rfl rfl rfl ?_
                  refine Ops.ex (Ex.assign rfl) rfl rfl rfl ?_
                  refine Ops.nil ?_
                  obtain rfl := Option.some.inj hf
                  exact Run.retV [vb true] rfl ⟨rfl, trivial⟩ ⟨z871, rfl, hy861_0, (St.forgetT (St.forget (St.forget (St.forget (St.forget (St.forget (St.forget (St.forget hst871 7) 6) 5) 4) 3) 2) 1))⟩
                · replace hf := ifF (dec_F hc) hf
                  refine Ops.on rfl ?_
                  refine Ops.ex (Ex.move rfl) rfl rfl rfl ?_
                  refine Ops.on rfl ?_
                  refine Ops.str8 (own_slh f872 rfl (hst871.get (i := 5) rfl)) rfl Try.underlying22 Try.underlying5 Try.underlying9 rfl (?_)
                  refine Ops.on rfl ?_
                  refine Ops.load rfl Try.underlying22 rfl (hst871.cell (i := 7) rfl rfl) rfl ?_
                  refine Ops.on rfl ?_
                  refine Ops.str8 (f11.at_ hst871) rfl Try.underlying22 Try.underlying5 Try.underlying9 rfl (?_)
                  refine Ops.on rfl ?_
                  refine Ops.ex (Ex.eqlT rfl rfl) rfl rfl rfl ?_
                  refine Ops.on rfl ?_
                  refine Ops.ex (Ex.pickF rfl rfl) rfl rfl rfl ?_
                  refine Ops.ex (Ex.pickT rfl rfl) rfl rfl rfl ?_
                  refine Ops.ex (Ex.assign rfl) rfl rfl rfl ?_
                  refine Ops.nil ?_
                  obtain rfl := Option.some.inj hf
                  exact Run.retV [vb (decide (y871.1 = l11))] rfl ⟨rfl, trivial⟩ ⟨z871, rfl, hy861_0, (St.forgetT (St.forget (St.forget (St.forget (St.forget (St.forget (St.forget (St.forget hst871 7) 6) 5) 4) 3) 2) 1))⟩
              · replace hf := ifF (dec_F hc) hf
                refine Ops.off rfl rfl ?_
                refine Ops.off rfl rfl ?_
                refine Ops.off rfl rfl ?_
                refine Ops.off rfl rfl ?_
                refine Ops.off rfl rfl ?_
                refine Ops.off rfl rfl ?_
                refine Ops.offU rfl rfl ?_
                refine Ops.offU rfl rfl ?_
                refine Ops.offU rfl rfl ?_
                refine Ops.offU rfl rfl ?_
                refine Ops.offU rfl rfl ?_
                refine Ops.off rfl rfl ?_
                refine Ops.ex (Ex.pickF rfl rfl) rfl rfl rfl ?_
                refine Ops.ex (Ex.assign rfl) rfl rfl rfl ?_
                refine Ops.nil ?_
                obtain rfl := Option.some.inj hf
                exact Run.retV [vb false] rfl ⟨rfl, trivial⟩ ⟨z871, rfl, hy861_0, (St.forgetT (St.forget (St.forget (St.forget (St.forget (St.forget (St.forget (St.forget hst871 7) 6) 5) 4) 3) 2) 1))⟩
end
end Go.Proofs.Ytbonfgnmipmmbaa.F6
