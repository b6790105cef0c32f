/- Files: laws. -/
import Derived.Test.YtbonfgnmipmmbaaF3
namespace Go.Proofs.Ytbonfgnmipmmbaa.F4
open Go Go.RowKit Go.Proofs.Ytbonfgnmipmmbaa.Sx Go.Proofs.Ytbonfgnmipmmbaa.F1 Go.Proofs.Ytbonfgnmipmmbaa.F2 Go.Proofs.Ytbonfgnmipmmbaa.F3
set_option linter.unusedVariables false
set_option linter.unusedSimpArgs false
noncomputable section
theorem sz49 : (Try.prog.info? 49).map (·.size) = some 5 := by kernel_rfl
theorem zr49 : (Try.prog.info? 49).map (·.zero) = some (some (.agg #[.int .u8 0, .int .u8 0, .int .u8 0, .slice none 0 0, .int .i16 0])) := by kernel_rfl
def go_law04_FilesFlip.b1 (p1 : Int16) (p2 : UInt8) (l6 : List UInt8) (b50 : Bool) (i57 : Nat) (a57 : UInt8) : Unit → (Unit → Option Bool) → Option Bool :=
  fun _ nxb57 => (atI l6 (i57 : Int)).bind fun y88 => if b50 then (if (i57 : Int) = p1.toInt then (if (decide (a57 = y88)) = (!(decide (p2 = 0))) then (some false) else (nxb57 ())) else (if (decide (a57 = y88)) = false then (some false) else (nxb57 ()))) else (if (decide (a57 = y88)) = false then (some false) else (nxb57 ()))
def go_law04_FilesFlip.j1 (p1 : Int16) (p2 : UInt8) (l6 : List UInt8) (y28 : Int × filesDisk × List filesfile) (y38 : Bool × List filesfile) (y41 : List UInt8 × Int × List filesfile) (b50 : Bool) : Option Bool :=
  if y38.1 = b50 then (if (y41.1.length : Int) = (l6.length : Int) then ((go_files_Disk_Flip y28.2.1 [121] 0 1 y41.2.2).bind fun y52 => if y52.1 then (some false) else ((go_files_Disk_Calls y28.2.1).bind fun y55 => if y55 = 2 then (forL (go_law04_FilesFlip.b1 p1 p2 l6 b50) (fun _ => some true) 0 y41.1 ()) else (some false))) else (some false)) else (some false)
def go_law04_FilesFlip (p0 : List UInt8) (p1 : Int16) (p2 : UInt8) : Option Bool :=
  (go_law04_awake).bind fun y4 => if y4 then ((cutI p0 0 (min (p0.length : Int) 100)).bind fun l6 => (go_files_Of 100).bind fun y7 => (go_files_Disk_Create y7 [120] ([] : List filesfile)).bind fun y17 => if y17.1 = 0 then ((go_files_Disk_Append y17.2.1 [120] l6 y17.2.2).bind fun y28 => if y28.1 = 0 then ((go_files_Disk_Flip y28.2.1 [120] p1.toInt p2 y28.2.2).bind fun y38 => (go_files_Disk_Read y28.2.1 [120] y38.2).bind fun y41 => if (0 : Int) ≤ p1.toInt then (go_law04_FilesFlip.j1 p1 p2 l6 y28 y38 y41 (decide (p1.toInt < (l6.length : Int)))) else (go_law04_FilesFlip.j1 p1 p2 l6 y28 y38 y41 false)) else (some false)) else (some false)) else (some false)
set_option maxRecDepth 100000 in
set_option maxHeartbeats 4000000 in
theorem go_law04_FilesFlip.walk {w0 w : World} {X : List Res} {z0 : Zp} {p0 : List UInt8} {A1 : Option Addr} {c1 : Nat} {p1 : Int16} {p2 : UInt8} {r : Bool} (hst : Ht w0 (frz z0 :: X) w) (f1 : Sl tU8 z0 A1 c1 p0) (hf : go_law04_FilesFlip p0 p1 p2 = some r) :
    Calls Try.prog 3 #[.slice A1 p0.length c1, vi16 p1, vu8 p2] w fun e w' => ∃ (z' : Zp), e = .returned (vb r) ∧ Le z0 z' ∧ Ht w0 (frz z' :: X) w' := by
  refine calls_np Try.func3 rfl rfl ?_
  have hle0 := Le.refl z0
  unfold go_law04_FilesFlip at hf
  refine Run.seq ?_
  refine Run.region ?_
  refine Ops.ex (Ex.assign rfl) rfl rfl rfl ?_
  refine Ops.nil ?_
  refine Run.seq ?_
  refine Run.seq ?_
  refine Run.region ?_
  obtain ⟨y4, hy4, hf⟩ := bnd hf
  refine Ops.call rfl rfl Try.func11 (by kernel_rfl) (by kernel_rfl) rfl (go_law04_awake.walk (hst := hst) (hf := hy4)) ?_
  rintro _ w4 ⟨z4, rfl, hz4, hst4⟩
  refine ⟨_, rfl, ?_⟩
  replace f1 := f1.mono hz4
  replace hle0 := hle0.trans hz4
  refine Ops.ex (Ex.not rfl) rfl rfl rfl ?_
  refine Ops.nil ?_
  refine Run.cond rfl (fun hc => ?_) (fun hc => ?_)
  · replace hf := ifFb (bn_T hc) hf
    refine Run.seq ?_
    refine Run.region ?_
    refine Ops.ex (Ex.assign rfl) rfl rfl rfl ?_
    refine Ops.nil ?_
    obtain rfl := Option.some.inj hf
    exact Run.retV [vb false] rfl ⟨rfl, trivial⟩ ⟨z4, rfl, hle0, hst4⟩
  · replace hf := ifTb (bn_F hc) hf
    refine Run.skip ?_
    refine Run.seq ?_
    refine Run.region ?_
    refine Ops.ex (Ex.move rfl) rfl rfl rfl ?_
    refine Ops.ex (Ex.move rfl) rfl rfl rfl ?_
    refine Ops.ex (Ex.len' rfl rfl rfl Try.underlying22) rfl rfl rfl ?_
    refine Ops.ex (Ex.min2 rfl rfl rfl) rfl rfl rfl ?_
    obtain ⟨l6, hy6, hf⟩ := bnd hf
    obtain ⟨A6, c6, hA6, hB6, f6⟩ := SlH.sub f1.toH hy6
    replace f6 := f6.toS
    refine Ops.ex (Ex.subA hA6 hB6 hy6 rfl rfl Try.underlying22 sz5 rfl rfl) rfl rfl rfl ?_
    refine Ops.ex (Ex.assign rfl) rfl rfl rfl ?_
    refine Ops.nil ?_
    refine Run.seq ?_
    refine Run.region ?_
    obtain ⟨Γ1, hΓ8⟩ : ∃ L : List Nat, L = [] := ⟨_, rfl⟩
    have hA8 : Ar1 z4 Γ1 [] [] := ArL.nil _ _ hΓ8
    have hp8 := List.prefix_rfl (l := Γ1)
    have hst8 : Ht w0 (frz z4 :: ([] ++ X)) _ := hst4
    obtain ⟨y7, hy7, hf⟩ := bnd hf
    refine Ops.call rfl rfl Try.func12 (by kernel_rfl) (by kernel_rfl) rfl (go_files_Of.walk (Γ1 := Γ1) (p0 := 100) (hst := hst8) (hf := hy7)) ?_
    rintro _ w7 ⟨z7, g9, gm10, E10, c10, gm11, E11, c11, A12, c12, d12, rfl, hz7, f10, f11, f12, hst7⟩
    refine ⟨_, rfl, ?_⟩
    replace f6 := f6.mono hz7; replace f1 := f1.mono hz7; replace hA8 := hA8.mono hz7
    replace hle0 := hle0.trans hz7
    refine Ops.ex (Ex.assign rfl) rfl rfl rfl ?_
    refine Ops.nil ?_
    refine Run.seq ?_
    refine Run.seq ?_
    refine Run.region ?_
    refine Ops.ex (Ex.move rfl) rfl rfl rfl ?_
    obtain ⟨y17, hy17, hf⟩ := bnd hf
    refine Ops.call rfl rfl Try.func13 (by kernel_rfl) (by kernel_rfl) rfl (go_files_Disk_Create.walk (Γ1 := Γ1) (p0 := y7) (p1 := [120]) (ar1 := ([] : List filesfile)) (hst := hst7) (f1 := f10) (f2 := f11) (f3 := f12) (hA1 := hA8) (Ha1 := []) (hf := hy17)) ?_
    rintro _ w17 ⟨z17, gm19, E19, c19, gm20, E20, c20, A21, c21, d21, Ha26, Γ1, rfl, hz17, f19, f20, f21, hA26, hG1_27, hst17⟩
    replace hst17 : Ht w0 (frz z17 :: (blk g9 [.map (some gm19), .map (some gm20), .slice A21 y17.2.1.wait_.length c21, vi y17.2.1.room_, vi y17.2.1.left_, vb y17.2.1.down_, vi y17.2.1.calls_] 68) :: (ob gm19 (.map E19 c19)) :: (ob gm20 (.map E20 c20)) :: (orow 78 1 (.slice A21 y17.2.1.wait_.length c21) y17.2.1.wait_.length d21) :: (Ha26 ++ X)) _ := hst17
    refine ⟨_, rfl, ?_⟩
    replace f6 := f6.mono hz17; replace f1 := f1.mono hz17
    replace hle0 := hle0.trans hz17
    replace hp8 := hp8.trans hG1_27
    refine Ops.ex (Ex.neqI rfl rfl) rfl rfl rfl ?_
    refine Ops.ex (Ex.move rfl) rfl rfl rfl ?_
    refine Ops.case 24 rfl (fun hc => ?_) (fun hc => ?_)
    · replace hf := ifF (neq_T hc) hf
      refine Ops.off rfl rfl ?_
      refine Ops.off rfl rfl ?_
      refine Ops.off rfl rfl ?_
      refine Ops.off rfl rfl ?_
      refine Ops.ex (Ex.pickT rfl rfl) rfl rfl rfl ?_
      refine Ops.nil ?_
      refine Run.condT rfl rfl ?_
      refine Run.seq ?_
      refine Run.region ?_
      refine Ops.ex (Ex.assign rfl) rfl rfl rfl ?_
      refine Ops.nil ?_
      obtain rfl := Option.some.inj hf
      exact Run.retV [vb false] rfl ⟨rfl, trivial⟩ ⟨z17, rfl, hle0, (St.forgetT (St.forget (St.forget (St.forget (St.forget hst17 4) 3) 2) 1))⟩
    · replace hf := ifT (neq_F hc) hf
      refine Ops.on rfl ?_
      refine Ops.ex (Ex.move rfl) rfl rfl rfl ?_
      refine Ops.on rfl ?_
      refine Ops.ex (Ex.move rfl) rfl rfl rfl ?_
      refine Ops.on rfl ?_
      obtain ⟨y28, hy28, hf⟩ := bnd hf
      refine Ops.call rfl rfl Try.func14 (by kernel_rfl) (by kernel_rfl) rfl (go_files_Disk_Append.walk (Γ1 := Γ1) (p0 := y17.2.1) (p1 := [120]) (p2 := l6) (ar1 := y17.2.2) (hst := hst17) (f1 := f19) (f2 := f20) (f3 := f21) (f9 := f6) (hA1 := hA26) (Ha1 := Ha26) (hf := hy28)) ?_
      rintro _ w28 ⟨z28, gm30, E30, c30, gm31, E31, c31, A32, c32, d32, Ha37, rfl, hz28, f30, f31, f32, hA37, hst28⟩
      replace hst28 : Ht w0 (frz z28 :: (blk g9 [.map (some gm30), .map (some gm31), .slice A32 y28.2.1.wait_.length c32, vi y28.2.1.room_, vi y28.2.1.left_, vb y28.2.1.down_, vi y28.2.1.calls_] 68) :: (ob gm30 (.map E30 c30)) :: (ob gm31 (.map E31 c31)) :: (orow 78 1 (.slice A32 y28.2.1.wait_.length c32) y28.2.1.wait_.length d32) :: (Ha37 ++ X)) _ := hst28
      refine ⟨_, rfl, ?_⟩
      replace f6 := f6.mono hz28; replace f1 := f1.mono hz28
      replace hle0 := hle0.trans hz28
      refine Ops.on rfl ?_
      refine Ops.ex (Ex.neqI rfl rfl) rfl rfl rfl ?_
      refine Ops.ex (Ex.pickF rfl rfl) rfl rfl rfl ?_
      refine Ops.nil ?_
      refine Run.cond rfl (fun hc => ?_) (fun hc => ?_)
      · replace hf := ifF (neq_T hc) hf
        refine Run.seq ?_
        refine Run.region ?_
        refine Ops.ex (Ex.assign rfl) rfl rfl rfl ?_
        refine Ops.nil ?_
        obtain rfl := Option.some.inj hf
        exact Run.retV [vb false] rfl ⟨rfl, trivial⟩ ⟨z28, rfl, hle0, (St.forgetT (St.forget (St.forget (St.forget (St.forget hst28 4) 3) 2) 1))⟩
      · replace hf := ifT (neq_F hc) hf
        refine Run.skip ?_
        refine Run.seq ?_
        refine Run.region ?_
        refine Ops.ex (Ex.move rfl) rfl rfl rfl ?_
        refine Ops.ex (Ex.move rfl) rfl rfl rfl ?_
        refine Ops.ex (Ex.ci16 rfl Try.underlying23 Try.underlying3) rfl rfl rfl ?_
        refine Ops.ex (Ex.move rfl) rfl rfl rfl ?_
        obtain ⟨y38, hy38, hf⟩ := bnd hf
        refine Ops.call rfl rfl Try.func15 (by kernel_rfl) (by kernel_rfl) rfl (go_files_Disk_Flip.walk (Γ1 := Γ1) (p0 := y28.2.1) (p1 := [120]) (p2 := p1.toInt) (p3 := p2) (ar1 := y28.2.2) (hst := hst28) (f1 := f30) (f2 := f31) (f3 := f32) (hA1 := hA37) (Ha1 := Ha37) (hf := hy38)) ?_
        rintro _ w38 ⟨z38, Ha40, rfl, hz38, hA40, hst38⟩
        replace hst38 : Ht w0 (frz z38 :: (blk g9 [.map (some gm30), .map (some gm31), .slice A32 y28.2.1.wait_.length c32, vi y28.2.1.room_, vi y28.2.1.left_, vb y28.2.1.down_, vi y28.2.1.calls_] 68) :: (ob gm30 (.map E30 c30)) :: (ob gm31 (.map E31 c31)) :: (orow 78 1 (.slice A32 y28.2.1.wait_.length c32) y28.2.1.wait_.length d32) :: (Ha40 ++ X)) _ := hst38
        refine ⟨_, rfl, ?_⟩
        replace f6 := f6.mono hz38; replace f1 := f1.mono hz38; replace f30 := f30.mono hz38; replace f31 := f31.mono hz38; replace f32 := f32.mono hz38
        replace hle0 := hle0.trans hz38
        refine Ops.ex (Ex.assign rfl) rfl rfl rfl ?_
        refine Ops.nil ?_
        refine Run.seq ?_
        refine Run.region ?_
        refine Ops.ex (Ex.move rfl) rfl rfl rfl ?_
        obtain ⟨y41, hy41, hf⟩ := bnd hf
        refine Ops.call rfl rfl Try.func16 (by kernel_rfl) (by kernel_rfl) rfl (go_files_Disk_Read.walk (Γ1 := Γ1) (p0 := y28.2.1) (p1 := [120]) (ar1 := y38.2) (hst := hst38) (f1 := f30) (f2 := f31) (f3 := f32) (hA1 := hA40) (Ha1 := Ha40) (hf := hy41)) ?_
        rintro _ w41 ⟨z41, A42, c42, d42, Ha44, rfl, hz41, f42, hA44, hst41⟩
        replace hst41 : Ht w0 (frz z41 :: (blk g9 [.map (some gm30), .map (some gm31), .slice A32 y28.2.1.wait_.length c32, vi y28.2.1.room_, vi y28.2.1.left_, vb y28.2.1.down_, vi y28.2.1.calls_] 68) :: (ob gm30 (.map E30 c30)) :: (ob gm31 (.map E31 c31)) :: (orow 78 1 (.slice A32 y28.2.1.wait_.length c32) y28.2.1.wait_.length d32) :: (orow 5 1 (.slice A42 y41.1.length c42) y41.1.length d42) :: (Ha44 ++ X)) _ := hst41
        refine ⟨_, rfl, ?_⟩
        replace f6 := f6.mono hz41; replace f1 := f1.mono hz41; replace f30 := f30.mono hz41; replace f31 := f31.mono hz41; replace f32 := f32.mono hz41
        replace hle0 := hle0.trans hz41
        refine Ops.ex (Ex.move rfl) rfl rfl rfl ?_
        refine Ops.ex (Ex.extract rfl rfl) rfl rfl rfl ?_
        refine Ops.ex (Ex.extract rfl rfl) rfl rfl rfl ?_
        refine Ops.ex (Ex.assign rfl) rfl rfl rfl ?_
        refine Ops.ex (Ex.assign rfl) rfl rfl rfl ?_
        refine Ops.nil ?_
        refine Run.seq ?_
        have hm46 := Le.refl z41
        have hp47 := List.prefix_rfl (l := Γ1)
        apply Run.jn (fun e' w' => ∃ (b50 : Bool) (Ha49 : List Res) (z48 : Zp), go_law04_FilesFlip.j1 p1 p2 l6 y28 y38 y41 b50 = some r ∧ e' = [(0, .slice A6 l6.length c6), (1, vi16 p1), (2, vu8 p2), (7, .pointer (some ⟨g9, 0, none⟩)), (8, vb y38.1), (9, .slice A42 y41.1.length c42), (11, vb b50)] ∧ Le z41 z48 ∧ Le z0 z48 ∧ Ar1 z48 Γ1 y41.2.2 Ha49 ∧ Ht w0 (frz z48 :: (blk g9 [.map (some gm30), .map (some gm31), .slice A32 y28.2.1.wait_.length c32, vi y28.2.1.room_, vi y28.2.1.left_, vb y28.2.1.down_, vi y28.2.1.calls_] 68) :: (ob gm30 (.map E30 c30)) :: (ob gm31 (.map E31 c31)) :: (orow 78 1 (.slice A32 y28.2.1.wait_.length c32) y28.2.1.wait_.length d32) :: (orow 5 1 (.slice A42 y41.1.length c42) y41.1.length d42) :: (Ha49 ++ X)) w')
        · intro hj45
          refine Run.region ?_
          refine Ops.ex (Ex.move rfl) rfl rfl rfl ?_
          refine Ops.ex (Ex.geq rfl rfl) rfl rfl rfl ?_
          refine Ops.ex (Ex.move rfl) rfl rfl rfl ?_
          refine Ops.case 42 rfl (fun hc => ?_) (fun hc => ?_)
          · replace hf := ifT (dec_T hc) hf
            refine Ops.on rfl ?_
            refine Ops.ex (Ex.move rfl) rfl rfl rfl ?_
            refine Ops.on rfl ?_
            refine Ops.ex (Ex.ci16 rfl Try.underlying23 Try.underlying3) rfl rfl rfl ?_
            refine Ops.on rfl ?_
            refine Ops.ex (Ex.move rfl) rfl rfl rfl ?_
            refine Ops.on rfl ?_
            refine Ops.ex (Ex.len' rfl rfl rfl Try.underlying22) rfl rfl rfl ?_
            refine Ops.on rfl ?_
            refine Ops.ex (Ex.lss rfl rfl) rfl rfl rfl ?_
            refine Ops.ex (Ex.pickT rfl rfl) rfl rfl rfl ?_
            refine Ops.ex (Ex.assign rfl) rfl rfl rfl ?_
            refine Ops.nil ?_
            exact Run.sub (by exact subB_spec ⟨rfl, rfl, rfl, rfl, rfl, rfl, rfl, trivial⟩) (hj45 _ _ ⟨decide (p1.toInt < (l6.length : Int)), Ha44, z41, hf, rfl, hm46, hle0, hA44, hst41⟩)
          · replace hf := ifF (dec_F hc) hf
            refine Ops.off rfl rfl ?_
            refine Ops.off rfl rfl ?_
            refine Ops.off rfl rfl ?_
            refine Ops.off rfl rfl ?_
            refine Ops.off rfl rfl ?_
            refine Ops.ex (Ex.pickF rfl rfl) rfl rfl rfl ?_
            refine Ops.ex (Ex.assign rfl) rfl rfl rfl ?_
            refine Ops.nil ?_
            exact Run.sub (by exact subB_spec ⟨rfl, rfl, rfl, rfl, rfl, rfl, rfl, trivial⟩) (hj45 _ _ ⟨false, Ha44, z41, hf, rfl, hm46, hle0, hA44, hst41⟩)
        · rintro e' w51 ⟨b50, Ha49, z48, hf, rfl, hz51, hy51_0, hA49, hst51⟩
          replace f6 := f6.mono hz51; replace f30 := f30.mono hz51; replace f31 := f31.mono hz51; replace f32 := f32.mono hz51; replace f42 := f42.mono hz51
          unfold go_law04_FilesFlip.j1 at hf
          refine Run.seq ?_
          refine Run.seq ?_
          refine Run.region ?_
          refine Ops.ex (Ex.move rfl) rfl rfl rfl ?_
          refine Ops.ex (Ex.move rfl) rfl rfl rfl ?_
          refine Ops.ex (Ex.neqBo rfl rfl Try.underlying4) rfl rfl rfl ?_
          refine Ops.ex (Ex.move rfl) rfl rfl rfl ?_
          refine Ops.case 52 rfl (fun hc => ?_) (fun hc => ?_)
          · replace hf := ifF (neq_T hc) hf
            refine Ops.off rfl rfl ?_
            refine Ops.off rfl rfl ?_
            refine Ops.off rfl rfl ?_
            refine Ops.off rfl rfl ?_
            refine Ops.off rfl rfl ?_
            refine Ops.ex (Ex.pickT rfl rfl) rfl rfl rfl ?_
            refine Ops.ex (Ex.move rfl) rfl rfl rfl ?_
            refine Ops.off rfl rfl ?_
            refine Ops.off rfl rfl ?_
            refine Ops.ex (Ex.pickT rfl rfl) rfl rfl rfl ?_
            refine Ops.ex (Ex.move rfl) rfl rfl rfl ?_
            refine Ops.off rfl rfl ?_
            refine Ops.off rfl rfl ?_
            refine Ops.off rfl rfl ?_
            refine Ops.ex (Ex.pickT rfl rfl) rfl rfl rfl ?_
            refine Ops.nil ?_
            refine Run.condT rfl rfl ?_
            refine Run.seq ?_
            refine Run.region ?_
            refine Ops.ex (Ex.assign rfl) rfl rfl rfl ?_
            refine Ops.nil ?_
            obtain rfl := Option.some.inj hf
            exact Run.retV [vb false] rfl ⟨rfl, trivial⟩ ⟨z48, rfl, hy51_0, (St.forgetT (St.forget (St.forget (St.forget (St.forget (St.forget hst51 5) 4) 3) 2) 1))⟩
          · replace hf := ifT (neq_F hc) hf
            refine Ops.on rfl ?_
            refine Ops.ex (Ex.move rfl) rfl rfl rfl ?_
            refine Ops.on rfl ?_
            refine Ops.ex (Ex.len' rfl rfl rfl Try.underlying22) rfl rfl rfl ?_
            refine Ops.on rfl ?_
            refine Ops.ex (Ex.move rfl) rfl rfl rfl ?_
            refine Ops.on rfl ?_
            refine Ops.ex (Ex.len' rfl rfl rfl Try.underlying22) rfl rfl rfl ?_
            refine Ops.on rfl ?_
            refine Ops.ex (Ex.neqI rfl rfl) rfl rfl rfl ?_
            refine Ops.ex (Ex.pickF rfl rfl) rfl rfl rfl ?_
            refine Ops.ex (Ex.move rfl) rfl rfl rfl ?_
            refine Ops.case 59 rfl (fun hc => ?_) (fun hc => ?_)
            · replace hf := ifF (neq_T hc) hf
              refine Ops.off rfl rfl ?_
              refine Ops.off rfl rfl ?_
              refine Ops.ex (Ex.pickT rfl rfl) rfl rfl rfl ?_
              refine Ops.ex (Ex.move rfl) rfl rfl rfl ?_
              refine Ops.off rfl rfl ?_
              refine Ops.off rfl rfl ?_
              refine Ops.off rfl rfl ?_
              refine Ops.ex (Ex.pickT rfl rfl) rfl rfl rfl ?_
              refine Ops.nil ?_
              refine Run.condT rfl rfl ?_
              refine Run.seq ?_
              refine Run.region ?_
              refine Ops.ex (Ex.assign rfl) rfl rfl rfl ?_
              refine Ops.nil ?_
              obtain rfl := Option.some.inj hf
              exact Run.retV [vb false] rfl ⟨rfl, trivial⟩ ⟨z48, rfl, hy51_0, (St.forgetT (St.forget (St.forget (St.forget (St.forget (St.forget hst51 5) 4) 3) 2) 1))⟩
            · replace hf := ifT (neq_F hc) hf
              refine Ops.on rfl ?_
              refine Ops.ex (Ex.move rfl) rfl rfl rfl ?_
              refine Ops.on rfl ?_
              obtain ⟨y52, hy52, hf⟩ := bnd hf
              refine Ops.call rfl rfl Try.func15 (by kernel_rfl) (by kernel_rfl) rfl (go_files_Disk_Flip.walk (Γ1 := Γ1) (p0 := y28.2.1) (p1 := [121]) (p2 := 0) (p3 := 1) (ar1 := y41.2.2) (hst := (St.mid (B := [blk g9 [.map (some gm30), .map (some gm31), .slice A32 y28.2.1.wait_.length c32, vi y28.2.1.room_, vi y28.2.1.left_, vb y28.2.1.down_, vi y28.2.1.calls_] 68, ob gm30 (.map E30 c30), ob gm31 (.map E31 c31), orow 78 1 (.slice A32 y28.2.1.wait_.length c32) y28.2.1.wait_.length d32]) (M := [orow 5 1 (.slice A42 y41.1.length c42) y41.1.length d42]) (Ha := Ha49) hst51)) (f1 := f30) (f2 := f31) (f3 := f32) (hA1 := hA49) (Ha1 := Ha49) (hf := hy52)) ?_
              rintro _ w52 ⟨z52, Ha54, rfl, hz52, hA54, hst52⟩
              replace hst52 : Ht w0 (frz z52 :: (blk g9 [.map (some gm30), .map (some gm31), .slice A32 y28.2.1.wait_.length c32, vi y28.2.1.room_, vi y28.2.1.left_, vb y28.2.1.down_, vi y28.2.1.calls_] 68) :: (ob gm30 (.map E30 c30)) :: (ob gm31 (.map E31 c31)) :: (orow 78 1 (.slice A32 y28.2.1.wait_.length c32) y28.2.1.wait_.length d32) :: (orow 5 1 (.slice A42 y41.1.length c42) y41.1.length d42) :: (Ha54 ++ X)) _ := St.mid (B := [blk g9 [.map (some gm30), .map (some gm31), .slice A32 y28.2.1.wait_.length c32, vi y28.2.1.room_, vi y28.2.1.left_, vb y28.2.1.down_, vi y28.2.1.calls_] 68, ob gm30 (.map E30 c30), ob gm31 (.map E31 c31), orow 78 1 (.slice A32 y28.2.1.wait_.length c32) y28.2.1.wait_.length d32]) (M := Ha54) (Ha := [orow 5 1 (.slice A42 y41.1.length c42) y41.1.length d42]) hst52
              refine ⟨_, rfl, ?_⟩
              replace f6 := f6.mono hz52; replace f30 := f30.mono hz52; replace f31 := f31.mono hz52; replace f32 := f32.mono hz52; replace f42 := f42.mono hz52
              replace hy51_0 := hy51_0.trans hz52
              replace hz51 := hz51.trans hz52
              refine Ops.ex (Ex.pickF rfl rfl) rfl rfl rfl ?_
              refine Ops.ex (Ex.move rfl) rfl rfl rfl ?_
              refine Ops.case 63 rfl (fun hc => ?_) (fun hc => ?_)
              · replace hf := ifTb hc hf
                refine Ops.off rfl rfl ?_
                refine Ops.off rfl rfl ?_
                refine Ops.off rfl rfl ?_
                refine Ops.ex (Ex.pickT rfl rfl) rfl rfl rfl ?_
                refine Ops.nil ?_
                refine Run.condT rfl rfl ?_
                refine Run.seq ?_
                refine Run.region ?_
                refine Ops.ex (Ex.assign rfl) rfl rfl rfl ?_
                refine Ops.nil ?_
                obtain rfl := Option.some.inj hf
                exact Run.retV [vb false] rfl ⟨rfl, trivial⟩ ⟨z52, rfl, hy51_0, (St.forgetT (St.forget (St.forget (St.forget (St.forget (St.forget hst52 5) 4) 3) 2) 1))⟩
              · replace hf := ifFb hc hf
                refine Ops.on rfl ?_
                refine Ops.ex (Ex.move rfl) rfl rfl rfl ?_
                refine Ops.on rfl ?_
                obtain ⟨y55, hy55, hf⟩ := bnd hf
                refine Ops.call rfl rfl Try.func17 (by kernel_rfl) (by kernel_rfl) rfl (go_files_Disk_Calls.walk (Γ1 := Γ1) (p0 := y28.2.1) (hst := hst52) (f1 := f30) (f2 := f31) (f3 := f32) (hf := hy55)) ?_
                rintro _ w55 ⟨z55, rfl, hz55, hst55⟩
                refine ⟨_, rfl, ?_⟩
                replace f6 := f6.mono hz55; replace f30 := f30.mono hz55; replace f31 := f31.mono hz55; replace f32 := f32.mono hz55; replace f42 := f42.mono hz55; replace hA54 := hA54.mono hz55
                replace hy51_0 := hy51_0.trans hz55
                replace hz51 := hz51.trans hz55
                refine Ops.on rfl ?_
                refine Ops.ex (Ex.neqI rfl rfl) rfl rfl rfl ?_
                refine Ops.ex (Ex.pickF rfl rfl) rfl rfl rfl ?_
                refine Ops.nil ?_
                refine Run.cond rfl (fun hc => ?_) (fun hc => ?_)
                · replace hf := ifF (neq_T hc) hf
                  refine Run.seq ?_
                  refine Run.region ?_
                  refine Ops.ex (Ex.assign rfl) rfl rfl rfl ?_
                  refine Ops.nil ?_
                  obtain rfl := Option.some.inj hf
                  exact Run.retV [vb false] rfl ⟨rfl, trivial⟩ ⟨z55, rfl, hy51_0, (St.forgetT (St.forget (St.forget (St.forget (St.forget (St.forget hst55 5) 4) 3) 2) 1))⟩
                · replace hf := ifT (neq_F hc) hf
                  refine Run.skip ?_
                  refine Run.seq ?_
                  refine Run.seq ?_
                  refine Run.region ?_
                  refine Ops.ex (Ex.move rfl) rfl rfl rfl ?_
                  refine Ops.ex (Ex.len' rfl rfl rfl Try.underlying22) rfl rfl rfl ?_
                  refine Ops.ex (Ex.move rfl) rfl rfl rfl ?_
                  refine Ops.nil ?_
                  refine Run.block ?_
                  have hc57 := (own_slh f42 rfl (hst55.get (i := 5) rfl)).cap
                  have hm58 := Le.refl z55
                  refine Run.sub (e' := [(0, .slice A6 l6.length c6), (1, vi16 p1), (2, vu8 p2), (9, .slice A42 y41.1.length c42), (11, vb b50), (69, vi (y41.1.length : Int)), (70, vi ((0 : Nat) : Int))]) (subB_spec ⟨rfl, rfl, rfl, rfl, rfl, rfl, rfl, trivial⟩) ?_
                  refine Run.loop (fun mb57 => (fun e' w' => ∃ (i57 : Nat) (Ha82 : List Res) (z81 : Zp), mb57 = y41.1.length - i57 ∧ i57 ≤ y41.1.length ∧ forL (go_law04_FilesFlip.b1 p1 p2 l6 b50) (fun _ => some true) i57 (y41.1.drop i57) () = some r ∧ e' = [(0, .slice A6 l6.length c6), (1, vi16 p1), (2, vu8 p2), (9, .slice A42 y41.1.length c42), (11, vb b50), (69, vi (y41.1.length : Int)), (70, vi (i57 : Int))] ∧ Le z55 z81 ∧ Le z0 z81 ∧ Le z41 z81 ∧ Ar1 z81 Γ1 y52.2 Ha82 ∧ Ht w0 (frz z81 :: (orow 5 1 (.slice A42 y41.1.length c42) y41.1.length d42) :: (Ha82 ++ X)) w')) y41.1.length ⟨0, Ha54, z55, rfl, Nat.zero_le _, hf, rfl, hm58, hy51_0, hz51, hA54, (St.forget (St.forget (St.forget (St.forget hst55 4) 3) 2) 1)⟩ ?_
                  rintro _ e' w83 ⟨i57, Ha82, z81, rfl, hi57, hf, rfl, hz83, hy83_0, hy83_1, hA82, hst83⟩
                  replace f6 := f6.mono hz83; replace f42 := f42.mono hz83
                  refine Run.seq ?_
                  refine Run.region ?_
                  refine Ops.ex (Ex.lss rfl rfl) rfl rfl rfl ?_
                  refine Ops.nil ?_
                  refine Run.seq ?_
                  refine Run.cond rfl (fun hc => ?_) (fun hc => ?_)
                  · have hl57 := lt_of_dec hc
                    obtain ⟨a57, nxb57, ha57, hnxb57, hf⟩ := forL_in hf hl57
                    unfold go_law04_FilesFlip.b1 at hf
                    try dsimp only at hf
                    refine Run.skip ?_
                    refine Run.seq ?_
                    refine Run.block ?_
                    refine Run.seq ?_
                    refine Run.region ?_
                    refine Ops.ex (Ex.move rfl) rfl rfl rfl ?_
                    refine Ops.ex (Ex.assign rfl) rfl rfl rfl ?_
                    refine Ops.nil ?_
                    refine Run.seq ?_
                    have hm85 := Le.refl z81
                    refine Run.drawH [([], fun w => ∃ ζ Y, Le z81 ζ ∧ Ht w0 (frz ζ :: (orow 5 1 (.slice A42 y41.1.length c42) y41.1.length d42) :: Y) w)] (by kernel_rfl) hst83 (fun w84 hst84 => ?_)
                    have hS0 := (⟨_, _, (Le.refl _), (St.up (St.up hst84 1 rfl) 1 rfl)⟩ : (fun w => ∃ ζ Y, Le z81 ζ ∧ Ht w0 (frz ζ :: (orow 5 1 (.slice A42 y41.1.length c42) y41.1.length d42) :: Y) w) _)
                    refine Any.takeE 0 rfl rfl rfl rfl (by kernel_rfl) (fun _ _ _ _ _ h => h) ((Ex.move rfl).s) ?_
                    refine Any.takeE 1 rfl rfl rfl rfl (by kernel_rfl) (fun _ _ _ _ _ h => h) ((Ex.move rfl).s) ?_
                    obtain ⟨g87, p87, o87, cs87, hA87, ho87, hr87, f87⟩ := own_elem f42 rfl (hst84.get (i := 1) rfl) (atI_nat ha57)
                    obtain rfl := hr87
                    refine Any.takeE 2 rfl rfl rfl rfl (by kernel_rfl) (fun _ _ _ _ _ h => h) ((Ex.ixA hA87 ho87 (atI_nat ha57) rfl rfl rfl Try.underlying22 sz5).s) ?_
                    refine Any.take 0 3 rfl rfl rfl rfl rfl (by kernel_rfl) (fun _ _ _ _ _ h => h) (ExS.load rfl Try.underlying5 rfl (fun w hS => by obtain ⟨_, _, hz, hs⟩ := hS; exact (f87 _ (hs.get (i := 1) rfl)) 0 _ rfl)) hS0 ?_
                    refine Any.takeE 4 rfl rfl rfl rfl (by kernel_rfl) (fun _ _ _ _ _ h => h) ((Ex.move rfl).s) ?_
                    refine Any.takeE 5 rfl rfl rfl rfl (by kernel_rfl) (fun _ _ _ _ _ h => h) ((Ex.move rfl).s) ?_
                    obtain ⟨y88, hy88, hf⟩ := bnd hf
                    obtain ⟨g90, p90, o90, cs90, hA90, ho90, hr90, f90⟩ := SlH.elem f6.toH hy88
                    obtain rfl := hr90
                    refine Any.takeE 6 rfl rfl rfl rfl (by kernel_rfl) (fun _ _ _ _ _ h => h) ((Ex.ixA hA90 ho90 hy88 rfl rfl rfl Try.underlying22 sz5).s) ?_
                    refine Any.take 0 7 rfl rfl rfl rfl rfl (by kernel_rfl) (fun _ _ _ _ _ h => h) (ExS.load rfl Try.underlying5 rfl (fun w hS => by obtain ⟨_, _, hz, hs⟩ := hS; exact (f90.mono (hz.trans hs.le)) 0 _ rfl)) hS0 ?_
                    refine Any.takeE 8 rfl rfl rfl rfl (by kernel_rfl) (fun _ _ _ _ _ h => h) ((Ex.eql8 rfl rfl).s) ?_
                    refine Any.takeE 9 rfl rfl rfl rfl (by kernel_rfl) (fun _ _ _ _ _ h => h) ((Ex.move rfl).s) ?_
                    refine Any.takeE 10 rfl rfl rfl rfl (by kernel_rfl) (fun _ _ _ _ _ h => h) ((Ex.move rfl).s) ?_
                    refine Any.case 83 rfl (fun hc => ?_) (fun hc => ?_)
                    · replace hf := ifTb hc hf
                      refine Any.takeE 11 rfl rfl rfl rfl (by kernel_rfl) (fun _ _ _ _ _ h => h) (ExS.g ((Ex.move rfl).s)) ?_
                      refine Any.takeE 12 rfl rfl rfl rfl (by kernel_rfl) (fun _ _ _ _ _ h => h) (ExS.g ((Ex.move rfl).s)) ?_
                      refine Any.takeE 13 rfl rfl rfl rfl (by kernel_rfl) (fun _ _ _ _ _ h => h) (ExS.g ((Ex.ci16 rfl Try.underlying23 Try.underlying3).s)) ?_
                      refine Any.takeE 14 rfl rfl rfl rfl (by kernel_rfl) (fun _ _ _ _ _ h => h) (ExS.g ((Ex.eqlI rfl rfl).s)) ?_
                      refine Any.takeE 15 rfl rfl rfl rfl (by kernel_rfl) (fun _ _ _ _ _ h => h) ((Ex.pickT rfl rfl).s) ?_
                      refine Any.takeE 16 rfl rfl rfl rfl (by kernel_rfl) (fun _ _ _ _ _ h => h) ((Ex.move rfl).s) ?_
                      refine Any.case 89 rfl (fun hc => ?_) (fun hc => ?_)
                      · replace hf := ifT (dec_T hc) hf
                        refine Any.takeE 17 rfl rfl rfl rfl (by kernel_rfl) (fun _ _ _ _ _ h => h) (ExS.g ((Ex.move rfl).s)) ?_
                        refine Any.takeE 18 rfl rfl rfl rfl (by kernel_rfl) (fun _ _ _ _ _ h => h) (ExS.g ((Ex.neq8 (a := p2) (b := 0) rfl rfl).s)) ?_
                        refine Any.takeE 19 rfl rfl rfl rfl (by kernel_rfl) (fun _ _ _ _ _ h => h) ((Ex.pickT rfl rfl).s) ?_
                        refine Any.takeE 20 rfl rfl rfl rfl (by kernel_rfl) (fun _ _ _ _ _ h => h) ((Ex.eqlBo rfl rfl Try.underlying4).s) ?_
                        refine Any.done (by kernel_rfl) ?_
                        refine Run.cond rfl (fun hc => ?_) (fun hc => ?_)
                        · replace hf := ifT (dec_T hc) hf
                          refine Run.seq ?_
                          refine Run.region ?_
                          refine Ops.ex (Ex.assign rfl) rfl rfl rfl ?_
                          refine Ops.nil ?_
                          obtain rfl := Option.some.inj hf
                          exact Run.retV [vb false] rfl ⟨rfl, trivial⟩ ⟨z81, rfl, hy83_0, (St.forgetT (St.forget hst84 1))⟩
                        · replace hf := ifF (dec_F hc) hf
                          refine Run.skip ?_
                          refine Run.endBlk ?_
                          refine Run.region ?_
                          refine Ops.ex (Ex.add rfl rfl) rfl rfl rfl ?_
                          refine Ops.ex (Ex.move rfl) rfl rfl rfl ?_
                          refine Ops.nil ?_
                          refine Run.re 70 rfl (congrArg vi (wr_succ' hl57 hc57)) ?_
                          exact Run.sub (by exact subB_spec ⟨rfl, rfl, rfl, rfl, rfl, rfl, rfl, trivial⟩) (Run.stop ⟨y41.1.length - (i57 + 1), by omega, i57 + 1, Ha82, z81, rfl, by omega, (hnxb57 _).symm.trans hf, rfl, hz83, hy83_0, hy83_1, hA82, hst84⟩)
                      · replace hf := ifF (dec_F hc) hf
                        refine Any.pass 17 rfl rfl rfl rfl (by kernel_rfl) (fun _ _ _ _ _ h => h) ?_
                        refine Any.pass 18 rfl rfl rfl rfl (by kernel_rfl) (fun _ _ _ _ _ h => h) ?_
                        refine Any.takeE 19 rfl rfl rfl rfl (by kernel_rfl) (fun _ _ _ _ _ h => h) ((Ex.pickF rfl rfl).s) ?_
                        refine Any.takeE 20 rfl rfl rfl rfl (by kernel_rfl) (fun _ _ _ _ _ h => h) ((Ex.eqlBo rfl rfl Try.underlying4).s) ?_
                        refine Any.done (by kernel_rfl) ?_
                        refine Run.cond rfl (fun hc => ?_) (fun hc => ?_)
                        · replace hf := ifT (dec_T hc) hf
                          refine Run.seq ?_
                          refine Run.region ?_
                          refine Ops.ex (Ex.assign rfl) rfl rfl rfl ?_
                          refine Ops.nil ?_
                          obtain rfl := Option.some.inj hf
                          exact Run.retV [vb false] rfl ⟨rfl, trivial⟩ ⟨z81, rfl, hy83_0, (St.forgetT (St.forget hst84 1))⟩
                        · replace hf := ifF (dec_F hc) hf
                          refine Run.skip ?_
                          refine Run.endBlk ?_
                          refine Run.region ?_
                          refine Ops.ex (Ex.add rfl rfl) rfl rfl rfl ?_
                          refine Ops.ex (Ex.move rfl) rfl rfl rfl ?_
                          refine Ops.nil ?_
                          refine Run.re 70 rfl (congrArg vi (wr_succ' hl57 hc57)) ?_
                          exact Run.sub (by exact subB_spec ⟨rfl, rfl, rfl, rfl, rfl, rfl, rfl, trivial⟩) (Run.stop ⟨y41.1.length - (i57 + 1), by omega, i57 + 1, Ha82, z81, rfl, by omega, (hnxb57 _).symm.trans hf, rfl, hz83, hy83_0, hy83_1, hA82, hst84⟩)
                    · replace hf := ifFb hc hf
                      refine Any.pass 11 rfl rfl rfl rfl (by kernel_rfl) (fun _ _ _ _ _ h => h) ?_
                      refine Any.pass 12 rfl rfl rfl rfl (by kernel_rfl) (fun _ _ _ _ _ h => h) ?_
                      refine Any.pass 13 rfl rfl rfl rfl (by kernel_rfl) (fun _ _ _ _ _ h => h) ?_
                      refine Any.pass 14 rfl rfl rfl rfl (by kernel_rfl) (fun _ _ _ _ _ h => h) ?_
                      refine Any.takeE 15 rfl rfl rfl rfl (by kernel_rfl) (fun _ _ _ _ _ h => h) ((Ex.pickF rfl rfl).s) ?_
                      refine Any.takeE 16 rfl rfl rfl rfl (by kernel_rfl) (fun _ _ _ _ _ h => h) ((Ex.move rfl).s) ?_
                      refine Any.pass 17 rfl rfl rfl rfl (by kernel_rfl) (fun _ _ _ _ _ h => h) ?_
                      refine Any.pass 18 rfl rfl rfl rfl (by kernel_rfl) (fun _ _ _ _ _ h => h) ?_
                      refine Any.takeE 19 rfl rfl rfl rfl (by kernel_rfl) (fun _ _ _ _ _ h => h) ((Ex.pickF rfl rfl).s) ?_
                      refine Any.takeE 20 rfl rfl rfl rfl (by kernel_rfl) (fun _ _ _ _ _ h => h) ((Ex.eqlBo rfl rfl Try.underlying4).s) ?_
                      refine Any.done (by kernel_rfl) ?_
                      refine Run.cond rfl (fun hc => ?_) (fun hc => ?_)
                      · replace hf := ifT (dec_T hc) hf
                        refine Run.seq ?_
                        refine Run.region ?_
                        refine Ops.ex (Ex.assign rfl) rfl rfl rfl ?_
                        refine Ops.nil ?_
                        obtain rfl := Option.some.inj hf
                        exact Run.retV [vb false] rfl ⟨rfl, trivial⟩ ⟨z81, rfl, hy83_0, (St.forgetT (St.forget hst84 1))⟩
                      · replace hf := ifF (dec_F hc) hf
                        refine Run.skip ?_
                        refine Run.endBlk ?_
                        refine Run.region ?_
                        refine Ops.ex (Ex.add rfl rfl) rfl rfl rfl ?_
                        refine Ops.ex (Ex.move rfl) rfl rfl rfl ?_
                        refine Ops.nil ?_
                        refine Run.re 70 rfl (congrArg vi (wr_succ' hl57 hc57)) ?_
                        exact Run.sub (by exact subB_spec ⟨rfl, rfl, rfl, rfl, rfl, rfl, rfl, trivial⟩) (Run.stop ⟨y41.1.length - (i57 + 1), by omega, i57 + 1, Ha82, z81, rfl, by omega, (hnxb57 _).symm.trans hf, rfl, hz83, hy83_0, hy83_1, hA82, hst84⟩)
                  · replace hf := forL_out hf (nlt_of_dec hc)
                    try dsimp only at hf
                    refine Run.exit _ rfl ?_
                    refine Run.seq ?_
                    refine Run.region ?_
                    refine Ops.ex (Ex.assign rfl) rfl rfl rfl ?_
                    refine Ops.nil ?_
                    obtain rfl := Option.some.inj hf
                    exact Run.retV [vb true] rfl ⟨rfl, trivial⟩ ⟨z81, rfl, hy83_0, (St.forgetT (St.forget hst83 1))⟩
def go_law04_FilesSafe.j1 (p2 : Int8) (y82 : filesDisk × List filesfile) (y91 : List UInt8 × Int × List filesfile) (s106 : Str) : Option Bool :=
  (go_files_Disk_Read y82.1 [121] y91.2.2).bind fun y112 => if y91.2.1 = 0 then (if y91.1 = s106 then (some (decide ((decide (y112.2.1 = 0)) = (decide ((0 : Int) < p2.toInt))))) else (some false)) else (some false)
def go_law04_FilesSafe (p0 : List UInt8) (p1 : List UInt8) (p2 : Int8) (p3 : UInt8) : Option Bool :=
  (go_law04_awake).bind fun y5 => if y5 then ((cutI p0 0 (min (p0.length : Int) 100)).bind fun l9 => (cutI p1 0 (min (p1.length : Int) 100)).bind fun l10 => (go_files_Of 400).bind fun y11 => (go_files_Disk_Create y11 [120] ([] : List filesfile)).bind fun y21 => if y21.1 = 0 then ((go_files_Disk_Append y21.2.1 [120] l9 y21.2.2).bind fun y32 => if y32.1 = 0 then ((go_files_Disk_Sync y32.2.1 [120] y32.2.2).bind fun y42 => if y42.1 = 0 then ((go_files_Disk_SyncDir y42.2.1).bind fun y52 => if y52.1 = 0 then ((go_files_Disk_Append y52.2 [120] l10 y42.2.2).bind fun y61 => if y61.1 = 0 then ((go_files_Disk_Create y61.2.1 [121] y61.2.2).bind fun y71 => if y71.1 = 0 then ((go_files_Disk_Restart y71.2.1 p2.toInt (p3.toNat : Int) y71.2.2).bind fun y82 => (go_files_Disk_Read y82.1 [120] y82.2).bind fun y91 => (cutI l10 0 (min (l10.length : Int) (p3.toNat : Int))).bind fun l108 => (catI l9 l108).bind fun s109 => go_law04_FilesSafe.j1 p2 y82 y91 s109) else (some false)) else (some false)) else (some false)) else (some false)) else (some false)) else (some false)) else (some false)
set_option maxRecDepth 100000 in
set_option maxHeartbeats 4000000 in
theorem go_law04_FilesSafe.walk {w0 w : World} {X : List Res} {z0 : Zp} {p0 : List UInt8} {A1 : Option Addr} {c1 : Nat} {p1 : List UInt8} {A2 : Option Addr} {c2 : Nat} {p2 : Int8} {p3 : UInt8} {r : Bool} (hst : Ht w0 (frz z0 :: X) w) (f1 : Sl tU8 z0 A1 c1 p0) (f2 : Sl tU8 z0 A2 c2 p1) (hf : go_law04_FilesSafe p0 p1 p2 p3 = some r) :
    Calls Try.prog 4 #[.slice A1 p0.length c1, .slice A2 p1.length c2, vi8 p2, vu8 p3] w fun e w' => ∃ (z' : Zp), e = .returned (vb r) ∧ Le z0 z' ∧ Ht w0 (frz z' :: X) w' := by
  refine calls_np Try.func4 rfl rfl ?_
  have hle0 := Le.refl z0
  unfold go_law04_FilesSafe at hf
  refine Run.seq ?_
  refine Run.region ?_
  refine Ops.ex (Ex.assign rfl) rfl rfl rfl ?_
  refine Ops.nil ?_
  refine Run.seq ?_
  refine Run.seq ?_
  refine Run.region ?_
  obtain ⟨y5, hy5, hf⟩ := bnd hf
  refine Ops.call rfl rfl Try.func11 (by kernel_rfl) (by kernel_rfl) rfl (go_law04_awake.walk (hst := hst) (hf := hy5)) ?_
  rintro _ w5 ⟨z5, rfl, hz5, hst5⟩
  refine ⟨_, rfl, ?_⟩
  replace f1 := f1.mono hz5; replace f2 := f2.mono hz5
  replace hle0 := hle0.trans hz5
  refine Ops.ex (Ex.not rfl) rfl rfl rfl ?_
  refine Ops.nil ?_
  refine Run.cond rfl (fun hc => ?_) (fun hc => ?_)
  · replace hf := ifFb (bn_T hc) hf
    refine Run.seq ?_
    refine Run.region ?_
    refine Ops.ex (Ex.assign rfl) rfl rfl rfl ?_
    refine Ops.nil ?_
    obtain rfl := Option.some.inj hf
    exact Run.retV [vb false] rfl ⟨rfl, trivial⟩ ⟨z5, rfl, hle0, hst5⟩
  · replace hf := ifTb (bn_F hc) hf
    refine Run.skip ?_
    refine Run.seq ?_
    have hm8 := Le.refl z5
    refine Run.drawH [] (by kernel_rfl) hst5 (fun w7 hst7 => ?_)
    refine Any.takeE 0 rfl rfl rfl rfl (by kernel_rfl) (fun _ _ _ _ _ h => h) ((Ex.move rfl).s) ?_
    refine Any.takeE 1 rfl rfl rfl rfl (by kernel_rfl) (fun _ _ _ _ _ h => h) ((Ex.move rfl).s) ?_
    refine Any.takeE 2 rfl rfl rfl rfl (by kernel_rfl) (fun _ _ _ _ _ h => h) ((Ex.len' rfl rfl rfl Try.underlying22).s) ?_
    refine Any.takeE 3 rfl rfl rfl rfl (by kernel_rfl) (fun _ _ _ _ _ h => h) ((Ex.min2 rfl rfl rfl).s) ?_
    obtain ⟨l9, hy9, hf⟩ := bnd hf
    obtain ⟨A9, c9, hA9, hB9, f9⟩ := SlH.sub f1.toH hy9
    replace f9 := f9.toS
    refine Any.takeE 4 rfl rfl rfl rfl (by kernel_rfl) (fun _ _ _ _ _ h => h) ((Ex.subA hA9 hB9 hy9 rfl rfl Try.underlying22 sz5 rfl rfl).s) ?_
    refine Any.takeE 5 rfl rfl rfl rfl (by kernel_rfl) (fun _ _ _ _ _ h => h) ((Ex.move rfl).s) ?_
    refine Any.takeE 6 rfl rfl rfl rfl (by kernel_rfl) (fun _ _ _ _ _ h => h) ((Ex.move rfl).s) ?_
    refine Any.takeE 7 rfl rfl rfl rfl (by kernel_rfl) (fun _ _ _ _ _ h => h) ((Ex.len' rfl rfl rfl Try.underlying22).s) ?_
    refine Any.takeE 8 rfl rfl rfl rfl (by kernel_rfl) (fun _ _ _ _ _ h => h) ((Ex.min2 rfl rfl rfl).s) ?_
    obtain ⟨l10, hy10, hf⟩ := bnd hf
    obtain ⟨A10, c10, hA10, hB10, f10⟩ := SlH.sub f2.toH hy10
    replace f10 := f10.toS
    refine Any.takeE 9 rfl rfl rfl rfl (by kernel_rfl) (fun _ _ _ _ _ h => h) ((Ex.subA hA10 hB10 hy10 rfl rfl Try.underlying22 sz5 rfl rfl).s) ?_
    refine Any.takeE 10 rfl rfl rfl rfl (by kernel_rfl) (fun _ _ _ _ _ h => h) ((Ex.assign rfl).s) ?_
    refine Any.takeE 11 rfl rfl rfl rfl (by kernel_rfl) (fun _ _ _ _ _ h => h) ((Ex.assign rfl).s) ?_
    refine Any.done (by kernel_rfl) ?_
    refine Run.seq ?_
    refine Run.region ?_
    obtain ⟨Γ1, hΓ12⟩ : ∃ L : List Nat, L = [] := ⟨_, rfl⟩
    have hA12 : Ar1 z5 Γ1 [] [] := ArL.nil _ _ hΓ12
    have hp12 := List.prefix_rfl (l := Γ1)
    have hst12 : Ht w0 (frz z5 :: ([] ++ X)) _ := hst7
    obtain ⟨y11, hy11, hf⟩ := bnd hf
    refine Ops.call rfl rfl Try.func12 (by kernel_rfl) (by kernel_rfl) rfl (go_files_Of.walk (Γ1 := Γ1) (p0 := 400) (hst := hst12) (hf := hy11)) ?_
    rintro _ w11 ⟨z11, g13, gm14, E14, c14, gm15, E15, c15, A16, c16, d16, rfl, hz11, f14, f15, f16, hst11⟩
    refine ⟨_, rfl, ?_⟩
    replace f9 := f9.mono hz11; replace f10 := f10.mono hz11; replace f1 := f1.mono hz11; replace f2 := f2.mono hz11; replace hA12 := hA12.mono hz11
    replace hle0 := hle0.trans hz11
    replace hm8 := hm8.trans hz11
    refine Ops.ex (Ex.assign rfl) rfl rfl rfl ?_
    refine Ops.nil ?_
    refine Run.seq ?_
    refine Run.seq ?_
    refine Run.region ?_
    refine Ops.ex (Ex.move rfl) rfl rfl rfl ?_
    obtain ⟨y21, hy21, hf⟩ := bnd hf
    refine Ops.call rfl rfl Try.func13 (by kernel_rfl) (by kernel_rfl) rfl (go_files_Disk_Create.walk (Γ1 := Γ1) (p0 := y11) (p1 := [120]) (ar1 := ([] : List filesfile)) (hst := hst11) (f1 := f14) (f2 := f15) (f3 := f16) (hA1 := hA12) (Ha1 := []) (hf := hy21)) ?_
    rintro _ w21 ⟨z21, gm23, E23, c23, gm24, E24, c24, A25, c25, d25, Ha30, Γ1, rfl, hz21, f23, f24, f25, hA30, hG1_31, hst21⟩
    replace hst21 : Ht w0 (frz z21 :: (blk g13 [.map (some gm23), .map (some gm24), .slice A25 y21.2.1.wait_.length c25, vi y21.2.1.room_, vi y21.2.1.left_, vb y21.2.1.down_, vi y21.2.1.calls_] 68) :: (ob gm23 (.map E23 c23)) :: (ob gm24 (.map E24 c24)) :: (orow 78 1 (.slice A25 y21.2.1.wait_.length c25) y21.2.1.wait_.length d25) :: (Ha30 ++ X)) _ := hst21
    refine ⟨_, rfl, ?_⟩
    replace f9 := f9.mono hz21; replace f10 := f10.mono hz21; replace f1 := f1.mono hz21; replace f2 := f2.mono hz21
    replace hle0 := hle0.trans hz21
    replace hm8 := hm8.trans hz21
    replace hp12 := hp12.trans hG1_31
    refine Ops.ex (Ex.neqI rfl rfl) rfl rfl rfl ?_
    refine Ops.ex (Ex.move rfl) rfl rfl rfl ?_
    refine Ops.case 31 rfl (fun hc => ?_) (fun hc => ?_)
    · replace hf := ifF (neq_T hc) hf
      refine Ops.off rfl rfl ?_
      refine Ops.off rfl rfl ?_
      refine Ops.off rfl rfl ?_
      refine Ops.off rfl rfl ?_
      refine Ops.ex (Ex.pickT rfl rfl) rfl rfl rfl ?_
      refine Ops.ex (Ex.move rfl) rfl rfl rfl ?_
      refine Ops.off rfl rfl ?_
      refine Ops.off rfl rfl ?_
      refine Ops.off rfl rfl ?_
      refine Ops.ex (Ex.pickT rfl rfl) rfl rfl rfl ?_
      refine Ops.ex (Ex.move rfl) rfl rfl rfl ?_
      refine Ops.off rfl rfl ?_
      refine Ops.off rfl rfl ?_
      refine Ops.off rfl rfl ?_
      refine Ops.ex (Ex.pickT rfl rfl) rfl rfl rfl ?_
      refine Ops.ex (Ex.move rfl) rfl rfl rfl ?_
      refine Ops.off rfl rfl ?_
      refine Ops.off rfl rfl ?_
      refine Ops.off rfl rfl ?_
      refine Ops.off rfl rfl ?_
      refine Ops.ex (Ex.pickT rfl rfl) rfl rfl rfl ?_
      refine Ops.ex (Ex.move rfl) rfl rfl rfl ?_
      refine Ops.off rfl rfl ?_
      refine Ops.off rfl rfl ?_
      refine Ops.off rfl rfl ?_
      refine Ops.ex (Ex.pickT rfl rfl) rfl rfl rfl ?_
      refine Ops.nil ?_
      refine Run.condT rfl rfl ?_
      refine Run.seq ?_
      refine Run.region ?_
      refine Ops.ex (Ex.assign rfl) rfl rfl rfl ?_
      refine Ops.nil ?_
      obtain rfl := Option.some.inj hf
      exact Run.retV [vb false] rfl ⟨rfl, trivial⟩ ⟨z21, rfl, hle0, (St.forgetT (St.forget (St.forget (St.forget (St.forget hst21 4) 3) 2) 1))⟩
    · replace hf := ifT (neq_F hc) hf
      refine Ops.on rfl ?_
      refine Ops.ex (Ex.move rfl) rfl rfl rfl ?_
      refine Ops.on rfl ?_
      refine Ops.ex (Ex.move rfl) rfl rfl rfl ?_
      refine Ops.on rfl ?_
      obtain ⟨y32, hy32, hf⟩ := bnd hf
      refine Ops.call rfl rfl Try.func14 (by kernel_rfl) (by kernel_rfl) rfl (go_files_Disk_Append.walk (Γ1 := Γ1) (p0 := y21.2.1) (p1 := [120]) (p2 := l9) (ar1 := y21.2.2) (hst := hst21) (f1 := f23) (f2 := f24) (f3 := f25) (f9 := f9) (hA1 := hA30) (Ha1 := Ha30) (hf := hy32)) ?_
      rintro _ w32 ⟨z32, gm34, E34, c34, gm35, E35, c35, A36, c36, d36, Ha41, rfl, hz32, f34, f35, f36, hA41, hst32⟩
      replace hst32 : Ht w0 (frz z32 :: (blk g13 [.map (some gm34), .map (some gm35), .slice A36 y32.2.1.wait_.length c36, vi y32.2.1.room_, vi y32.2.1.left_, vb y32.2.1.down_, vi y32.2.1.calls_] 68) :: (ob gm34 (.map E34 c34)) :: (ob gm35 (.map E35 c35)) :: (orow 78 1 (.slice A36 y32.2.1.wait_.length c36) y32.2.1.wait_.length d36) :: (Ha41 ++ X)) _ := hst32
      refine ⟨_, rfl, ?_⟩
      replace f9 := f9.mono hz32; replace f10 := f10.mono hz32; replace f1 := f1.mono hz32; replace f2 := f2.mono hz32
      replace hle0 := hle0.trans hz32
      replace hm8 := hm8.trans hz32
      refine Ops.on rfl ?_
      refine Ops.ex (Ex.neqI rfl rfl) rfl rfl rfl ?_
      refine Ops.ex (Ex.pickF rfl rfl) rfl rfl rfl ?_
      refine Ops.ex (Ex.move rfl) rfl rfl rfl ?_
      refine Ops.case 37 rfl (fun hc => ?_) (fun hc => ?_)
      · replace hf := ifF (neq_T hc) hf
        refine Ops.off rfl rfl ?_
        refine Ops.off rfl rfl ?_
        refine Ops.off rfl rfl ?_
        refine Ops.ex (Ex.pickT rfl rfl) rfl rfl rfl ?_
        refine Ops.ex (Ex.move rfl) rfl rfl rfl ?_
        refine Ops.off rfl rfl ?_
        refine Ops.off rfl rfl ?_
        refine Ops.off rfl rfl ?_
        refine Ops.ex (Ex.pickT rfl rfl) rfl rfl rfl ?_
        refine Ops.ex (Ex.move rfl) rfl rfl rfl ?_
        refine Ops.off rfl rfl ?_
        refine Ops.off rfl rfl ?_
        refine Ops.off rfl rfl ?_
        refine Ops.off rfl rfl ?_
        refine Ops.ex (Ex.pickT rfl rfl) rfl rfl rfl ?_
        refine Ops.ex (Ex.move rfl) rfl rfl rfl ?_
        refine Ops.off rfl rfl ?_
        refine Ops.off rfl rfl ?_
        refine Ops.off rfl rfl ?_
        refine Ops.ex (Ex.pickT rfl rfl) rfl rfl rfl ?_
        refine Ops.nil ?_
        refine Run.condT rfl rfl ?_
        refine Run.seq ?_
        refine Run.region ?_
        refine Ops.ex (Ex.assign rfl) rfl rfl rfl ?_
        refine Ops.nil ?_
        obtain rfl := Option.some.inj hf
        exact Run.retV [vb false] rfl ⟨rfl, trivial⟩ ⟨z32, rfl, hle0, (St.forgetT (St.forget (St.forget (St.forget (St.forget hst32 4) 3) 2) 1))⟩
      · replace hf := ifT (neq_F hc) hf
        refine Ops.on rfl ?_
        refine Ops.ex (Ex.move rfl) rfl rfl rfl ?_
        refine Ops.on rfl ?_
        obtain ⟨y42, hy42, hf⟩ := bnd hf
        refine Ops.call rfl rfl Try.func18 (by kernel_rfl) (by kernel_rfl) rfl (go_files_Disk_Sync.walk (Γ1 := Γ1) (p0 := y32.2.1) (p1 := [120]) (ar1 := y32.2.2) (hst := hst32) (f1 := f34) (f2 := f35) (f3 := f36) (hA1 := hA41) (Ha1 := Ha41) (hf := hy42)) ?_
        rintro _ w42 ⟨z42, gm44, E44, c44, gm45, E45, c45, A46, c46, d46, Ha51, rfl, hz42, f44, f45, f46, hA51, hst42⟩
        replace hst42 : Ht w0 (frz z42 :: (blk g13 [.map (some gm44), .map (some gm45), .slice A46 y42.2.1.wait_.length c46, vi y42.2.1.room_, vi y42.2.1.left_, vb y42.2.1.down_, vi y42.2.1.calls_] 68) :: (ob gm44 (.map E44 c44)) :: (ob gm45 (.map E45 c45)) :: (orow 78 1 (.slice A46 y42.2.1.wait_.length c46) y42.2.1.wait_.length d46) :: (Ha51 ++ X)) _ := hst42
        refine ⟨_, rfl, ?_⟩
        replace f9 := f9.mono hz42; replace f10 := f10.mono hz42; replace f1 := f1.mono hz42; replace f2 := f2.mono hz42
        replace hle0 := hle0.trans hz42
        replace hm8 := hm8.trans hz42
        refine Ops.on rfl ?_
        refine Ops.ex (Ex.neqI rfl rfl) rfl rfl rfl ?_
        refine Ops.ex (Ex.pickF rfl rfl) rfl rfl rfl ?_
        refine Ops.ex (Ex.move rfl) rfl rfl rfl ?_
        refine Ops.case 42 rfl (fun hc => ?_) (fun hc => ?_)
        · replace hf := ifF (neq_T hc) hf
          refine Ops.off rfl rfl ?_
          refine Ops.off rfl rfl ?_
          refine Ops.off rfl rfl ?_
          refine Ops.ex (Ex.pickT rfl rfl) rfl rfl rfl ?_
          refine Ops.ex (Ex.move rfl) rfl rfl rfl ?_
          refine Ops.off rfl rfl ?_
          refine Ops.off rfl rfl ?_
          refine Ops.off rfl rfl ?_
          refine Ops.off rfl rfl ?_
          refine Ops.ex (Ex.pickT rfl rfl) rfl rfl rfl ?_
          refine Ops.ex (Ex.move rfl) rfl rfl rfl ?_
          refine Ops.off rfl rfl ?_
          refine Ops.off rfl rfl ?_
          refine Ops.off rfl rfl ?_
          refine Ops.ex (Ex.pickT rfl rfl) rfl rfl rfl ?_
          refine Ops.nil ?_
          refine Run.condT rfl rfl ?_
          refine Run.seq ?_
          refine Run.region ?_
          refine Ops.ex (Ex.assign rfl) rfl rfl rfl ?_
          refine Ops.nil ?_
          obtain rfl := Option.some.inj hf
          exact Run.retV [vb false] rfl ⟨rfl, trivial⟩ ⟨z42, rfl, hle0, (St.forgetT (St.forget (St.forget (St.forget (St.forget hst42 4) 3) 2) 1))⟩
        · replace hf := ifT (neq_F hc) hf
          refine Ops.on rfl ?_
          refine Ops.ex (Ex.move rfl) rfl rfl rfl ?_
          refine Ops.on rfl ?_
          obtain ⟨y52, hy52, hf⟩ := bnd hf
          refine Ops.call rfl rfl Try.func19 (by kernel_rfl) (by kernel_rfl) rfl (go_files_Disk_SyncDir.walk (Γ1 := Γ1) (p0 := y42.2.1) (hst := hst42) (f1 := f44) (f2 := f45) (f3 := f46) (hf := hy52)) ?_
          rintro _ w52 ⟨z52, gm54, E54, c54, gm55, E55, c55, A56, c56, d56, rfl, hz52, f54, f55, f56, hst52⟩
          refine ⟨_, rfl, ?_⟩
          replace f9 := f9.mono hz52; replace f10 := f10.mono hz52; replace f1 := f1.mono hz52; replace f2 := f2.mono hz52; replace hA51 := hA51.mono hz52
          replace hle0 := hle0.trans hz52
          replace hm8 := hm8.trans hz52
          refine Ops.on rfl ?_
          refine Ops.ex (Ex.neqI rfl rfl) rfl rfl rfl ?_
          refine Ops.ex (Ex.pickF rfl rfl) rfl rfl rfl ?_
          refine Ops.ex (Ex.move rfl) rfl rfl rfl ?_
          refine Ops.case 47 rfl (fun hc => ?_) (fun hc => ?_)
          · replace hf := ifF (neq_T hc) hf
            refine Ops.off rfl rfl ?_
            refine Ops.off rfl rfl ?_
            refine Ops.off rfl rfl ?_
            refine Ops.off rfl rfl ?_
            refine Ops.ex (Ex.pickT rfl rfl) rfl rfl rfl ?_
            refine Ops.ex (Ex.move rfl) rfl rfl rfl ?_
            refine Ops.off rfl rfl ?_
            refine Ops.off rfl rfl ?_
            refine Ops.off rfl rfl ?_
            refine Ops.ex (Ex.pickT rfl rfl) rfl rfl rfl ?_
            refine Ops.nil ?_
            refine Run.condT rfl rfl ?_
            refine Run.seq ?_
            refine Run.region ?_
            refine Ops.ex (Ex.assign rfl) rfl rfl rfl ?_
            refine Ops.nil ?_
            obtain rfl := Option.some.inj hf
            exact Run.retV [vb false] rfl ⟨rfl, trivial⟩ ⟨z52, rfl, hle0, (St.forgetT (St.forget (St.forget (St.forget (St.forget hst52 4) 3) 2) 1))⟩
          · replace hf := ifT (neq_F hc) hf
            refine Ops.on rfl ?_
            refine Ops.ex (Ex.move rfl) rfl rfl rfl ?_
            refine Ops.on rfl ?_
            refine Ops.ex (Ex.move rfl) rfl rfl rfl ?_
            refine Ops.on rfl ?_
            obtain ⟨y61, hy61, hf⟩ := bnd hf
            refine Ops.call rfl rfl Try.func14 (by kernel_rfl) (by kernel_rfl) rfl (go_files_Disk_Append.walk (Γ1 := Γ1) (p0 := y52.2) (p1 := [120]) (p2 := l10) (ar1 := y42.2.2) (hst := hst52) (f1 := f54) (f2 := f55) (f3 := f56) (f9 := f10) (hA1 := hA51) (Ha1 := Ha51) (hf := hy61)) ?_
            rintro _ w61 ⟨z61, gm63, E63, c63, gm64, E64, c64, A65, c65, d65, Ha70, rfl, hz61, f63, f64, f65, hA70, hst61⟩
            replace hst61 : Ht w0 (frz z61 :: (blk g13 [.map (some gm63), .map (some gm64), .slice A65 y61.2.1.wait_.length c65, vi y61.2.1.room_, vi y61.2.1.left_, vb y61.2.1.down_, vi y61.2.1.calls_] 68) :: (ob gm63 (.map E63 c63)) :: (ob gm64 (.map E64 c64)) :: (orow 78 1 (.slice A65 y61.2.1.wait_.length c65) y61.2.1.wait_.length d65) :: (Ha70 ++ X)) _ := hst61
            refine ⟨_, rfl, ?_⟩
            replace f9 := f9.mono hz61; replace f10 := f10.mono hz61; replace f1 := f1.mono hz61; replace f2 := f2.mono hz61
            replace hle0 := hle0.trans hz61
            replace hm8 := hm8.trans hz61
            refine Ops.on rfl ?_
            refine Ops.ex (Ex.neqI rfl rfl) rfl rfl rfl ?_
            refine Ops.ex (Ex.pickF rfl rfl) rfl rfl rfl ?_
            refine Ops.ex (Ex.move rfl) rfl rfl rfl ?_
            refine Ops.case 53 rfl (fun hc => ?_) (fun hc => ?_)
            · replace hf := ifF (neq_T hc) hf
              refine Ops.off rfl rfl ?_
              refine Ops.off rfl rfl ?_
              refine Ops.off rfl rfl ?_
              refine Ops.ex (Ex.pickT rfl rfl) rfl rfl rfl ?_
              refine Ops.nil ?_
              refine Run.condT rfl rfl ?_
              refine Run.seq ?_
              refine Run.region ?_
              refine Ops.ex (Ex.assign rfl) rfl rfl rfl ?_
              refine Ops.nil ?_
              obtain rfl := Option.some.inj hf
              exact Run.retV [vb false] rfl ⟨rfl, trivial⟩ ⟨z61, rfl, hle0, (St.forgetT (St.forget (St.forget (St.forget (St.forget hst61 4) 3) 2) 1))⟩
            · replace hf := ifT (neq_F hc) hf
              refine Ops.on rfl ?_
              refine Ops.ex (Ex.move rfl) rfl rfl rfl ?_
              refine Ops.on rfl ?_
              obtain ⟨y71, hy71, hf⟩ := bnd hf
              refine Ops.call rfl rfl Try.func13 (by kernel_rfl) (by kernel_rfl) rfl (go_files_Disk_Create.walk (Γ1 := Γ1) (p0 := y61.2.1) (p1 := [121]) (ar1 := y61.2.2) (hst := hst61) (f1 := f63) (f2 := f64) (f3 := f65) (hA1 := hA70) (Ha1 := Ha70) (hf := hy71)) ?_
              rintro _ w71 ⟨z71, gm73, E73, c73, gm74, E74, c74, A75, c75, d75, Ha80, Γ1, rfl, hz71, f73, f74, f75, hA80, hG1_81, hst71⟩
              replace hst71 : Ht w0 (frz z71 :: (blk g13 [.map (some gm73), .map (some gm74), .slice A75 y71.2.1.wait_.length c75, vi y71.2.1.room_, vi y71.2.1.left_, vb y71.2.1.down_, vi y71.2.1.calls_] 68) :: (ob gm73 (.map E73 c73)) :: (ob gm74 (.map E74 c74)) :: (orow 78 1 (.slice A75 y71.2.1.wait_.length c75) y71.2.1.wait_.length d75) :: (Ha80 ++ X)) _ := hst71
              refine ⟨_, rfl, ?_⟩
              replace f9 := f9.mono hz71; replace f10 := f10.mono hz71; replace f1 := f1.mono hz71; replace f2 := f2.mono hz71
              replace hle0 := hle0.trans hz71
              replace hm8 := hm8.trans hz71
              replace hp12 := hp12.trans hG1_81
              refine Ops.on rfl ?_
              refine Ops.ex (Ex.neqI rfl rfl) rfl rfl rfl ?_
              refine Ops.ex (Ex.pickF rfl rfl) rfl rfl rfl ?_
              refine Ops.nil ?_
              refine Run.cond rfl (fun hc => ?_) (fun hc => ?_)
              · replace hf := ifF (neq_T hc) hf
                refine Run.seq ?_
                refine Run.region ?_
                refine Ops.ex (Ex.assign rfl) rfl rfl rfl ?_
                refine Ops.nil ?_
                obtain rfl := Option.some.inj hf
                exact Run.retV [vb false] rfl ⟨rfl, trivial⟩ ⟨z71, rfl, hle0, (St.forgetT (St.forget (St.forget (St.forget (St.forget hst71 4) 3) 2) 1))⟩
              · replace hf := ifT (neq_F hc) hf
                refine Run.skip ?_
                refine Run.seq ?_
                refine Run.region ?_
                refine Ops.ex (Ex.move rfl) rfl rfl rfl ?_
                refine Ops.ex (Ex.move rfl) rfl rfl rfl ?_
                refine Ops.ex (Ex.ci8 rfl Try.underlying35 Try.underlying3) rfl rfl rfl ?_
                refine Ops.ex (Ex.move rfl) rfl rfl rfl ?_
                refine Ops.ex (Ex.cu8 rfl Try.underlying5 Try.underlying3) rfl rfl rfl ?_
                obtain ⟨y82, hy82, hf⟩ := bnd hf
                refine Ops.call rfl rfl Try.func20 (by kernel_rfl) (by kernel_rfl) rfl (go_files_Disk_Restart.walk (Γ1 := Γ1) (p0 := y71.2.1) (p1 := p2.toInt) (p2 := (p3.toNat : Int)) (ar1 := y71.2.2) (hst := hst71) (f1 := f73) (f2 := f74) (f3 := f75) (hA1 := hA80) (Ha1 := Ha80) (hf := hy82)) ?_
                rintro _ w82 ⟨z82, gm83, E83, c83, gm84, E84, c84, A85, c85, d85, Ha90, rfl, hz82, f83, f84, f85, hA90, hst82⟩
                replace hst82 : Ht w0 (frz z82 :: (blk g13 [.map (some gm83), .map (some gm84), .slice A85 y82.1.wait_.length c85, vi y82.1.room_, vi y82.1.left_, vb y82.1.down_, vi y82.1.calls_] 68) :: (ob gm83 (.map E83 c83)) :: (ob gm84 (.map E84 c84)) :: (orow 78 1 (.slice A85 y82.1.wait_.length c85) y82.1.wait_.length d85) :: (Ha90 ++ X)) _ := hst82
                refine ⟨_, rfl, ?_⟩
                replace f9 := f9.mono hz82; replace f10 := f10.mono hz82; replace f1 := f1.mono hz82; replace f2 := f2.mono hz82
                replace hle0 := hle0.trans hz82
                replace hm8 := hm8.trans hz82
                refine Ops.nil ?_
                refine Run.seq ?_
                refine Run.region ?_
                refine Ops.ex (Ex.move rfl) rfl rfl rfl ?_
                obtain ⟨y91, hy91, hf⟩ := bnd hf
                refine Ops.call rfl rfl Try.func16 (by kernel_rfl) (by kernel_rfl) rfl (go_files_Disk_Read.walk (Γ1 := Γ1) (p0 := y82.1) (p1 := [120]) (ar1 := y82.2) (hst := hst82) (f1 := f83) (f2 := f84) (f3 := f85) (hA1 := hA90) (Ha1 := Ha90) (hf := hy91)) ?_
                rintro _ w91 ⟨z91, A92, c92, d92, Ha94, rfl, hz91, f92, hA94, hst91⟩
                replace hst91 : Ht w0 (frz z91 :: (blk g13 [.map (some gm83), .map (some gm84), .slice A85 y82.1.wait_.length c85, vi y82.1.room_, vi y82.1.left_, vb y82.1.down_, vi y82.1.calls_] 68) :: (ob gm83 (.map E83 c83)) :: (ob gm84 (.map E84 c84)) :: (orow 78 1 (.slice A85 y82.1.wait_.length c85) y82.1.wait_.length d85) :: (orow 5 1 (.slice A92 y91.1.length c92) y91.1.length d92) :: (Ha94 ++ X)) _ := hst91
                refine ⟨_, rfl, ?_⟩
                replace f9 := f9.mono hz91; replace f10 := f10.mono hz91; replace f1 := f1.mono hz91; replace f2 := f2.mono hz91; replace f83 := f83.mono hz91; replace f84 := f84.mono hz91; replace f85 := f85.mono hz91
                replace hle0 := hle0.trans hz91
                replace hm8 := hm8.trans hz91
                refine Ops.ex (Ex.move rfl) rfl rfl rfl ?_
                refine Ops.ex (Ex.extract rfl rfl) rfl rfl rfl ?_
                refine Ops.ex (Ex.extract rfl rfl) rfl rfl rfl ?_
                refine Ops.ex (Ex.assign rfl) rfl rfl rfl ?_
                refine Ops.ex (Ex.assign rfl) rfl rfl rfl ?_
                refine Ops.nil ?_
                refine Run.seq ?_
                have hm102 := Le.refl z91
                have hp103 := List.prefix_rfl (l := Γ1)
                apply Run.jn (fun e' w' => ∃ (s106 : Str) (Ha105 : List Res) (z104 : Zp), go_law04_FilesSafe.j1 p2 y82 y91 s106 = some r ∧ e' = [(2, vi8 p2), (9, .pointer (some ⟨g13, 0, none⟩)), (10, .slice A92 y91.1.length c92), (11, vi y91.2.1), (12, vs s106)] ∧ Le z91 z104 ∧ Le z0 z104 ∧ Le z5 z104 ∧ Ar1 z104 Γ1 y91.2.2 Ha105 ∧ Ht w0 (frz z104 :: (blk g13 [.map (some gm83), .map (some gm84), .slice A85 y82.1.wait_.length c85, vi y82.1.room_, vi y82.1.left_, vb y82.1.down_, vi y82.1.calls_] 68) :: (ob gm83 (.map E83 c83)) :: (ob gm84 (.map E84 c84)) :: (orow 78 1 (.slice A85 y82.1.wait_.length c85) y82.1.wait_.length d85) :: (orow 5 1 (.slice A92 y91.1.length c92) y91.1.length d92) :: (Ha105 ++ X)) w')
                · intro hj95
                  refine Run.drawH [] (by kernel_rfl) hst91 (fun w107 hst107 => ?_)
                  refine Any.takeE 0 rfl rfl rfl rfl (by kernel_rfl) (fun _ _ _ _ _ h => h) ((Ex.move rfl).s) ?_
                  refine Any.takeE 2 rfl rfl rfl rfl (by kernel_rfl) (fun _ _ _ _ _ h => h) ((Ex.move rfl).s) ?_
                  refine Any.takeE 3 rfl rfl rfl rfl (by kernel_rfl) (fun _ _ _ _ _ h => h) ((Ex.move rfl).s) ?_
                  refine Any.takeE 4 rfl rfl rfl rfl (by kernel_rfl) (fun _ _ _ _ _ h => h) ((Ex.len' rfl rfl rfl Try.underlying22).s) ?_
                  refine Any.takeE 5 rfl rfl rfl rfl (by kernel_rfl) (fun _ _ _ _ _ h => h) ((Ex.move rfl).s) ?_
                  refine Any.takeE 6 rfl rfl rfl rfl (by kernel_rfl) (fun _ _ _ _ _ h => h) ((Ex.cu8 rfl Try.underlying5 Try.underlying3).s) ?_
                  refine Any.takeE 7 rfl rfl rfl rfl (by kernel_rfl) (fun _ _ _ _ _ h => h) ((Ex.min2 rfl rfl rfl).s) ?_
                  obtain ⟨l108, hy108, hf⟩ := bnd hf
                  obtain ⟨A108, c108, hA108, hB108, f108⟩ := SlH.sub f10.toH hy108
                  replace f108 := f108.toS
                  refine Any.takeE 8 rfl rfl rfl rfl (by kernel_rfl) (fun _ _ _ _ _ h => h) ((Ex.subA hA108 hB108 hy108 rfl rfl Try.underlying22 sz5 rfl rfl).s) ?_
                  refine Any.all [1, 9] (by kernel_rfl) rfl (fun i hi => ?_)
                  simp only [List.mem_cons, List.not_mem_nil, or_false] at hi
                  rcases hi with rfl | rfl
                  · skip
                    refine ⟨_, rfl, rfl, One.of_ops rfl ?_⟩
                    refine Ops.str8 (f9.at_ hst107) rfl Try.underlying22 Try.underlying5 Try.underlying9 rfl (Ops.stop ?_)
                    refine ⟨trivial, ?_⟩
                    refine Any.one 9 (by kernel_rfl) rfl rfl (One.of_ops rfl ?_)
                    refine Ops.str8 (f108.at_ hst107) rfl Try.underlying22 Try.underlying5 Try.underlying9 rfl (Ops.stop ?_)
                    refine ⟨trivial, ?_⟩
                    obtain ⟨s109, hy109, hf⟩ := bnd hf
                    refine Any.takeE 10 rfl rfl rfl rfl (by kernel_rfl) (fun _ _ _ _ _ h => h) ((Ex.addT hy109 rfl rfl).s) ?_
                    refine Any.takeE 11 rfl rfl rfl rfl (by kernel_rfl) (fun _ _ _ _ _ h => h) ((Ex.assign rfl).s) ?_
                    refine Any.done (by kernel_rfl) ?_
                    exact Run.sub (by exact subB_spec ⟨rfl, rfl, rfl, rfl, rfl, trivial⟩) (hj95 _ _ ⟨s109, Ha94, z91, hf, rfl, hm102, hle0, hm8, hA94, hst107⟩)
                  · skip
                    refine ⟨_, rfl, rfl, One.of_ops rfl ?_⟩
                    refine Ops.str8 (f108.at_ hst107) rfl Try.underlying22 Try.underlying5 Try.underlying9 rfl (Ops.stop ?_)
                    refine ⟨trivial, ?_⟩
                    refine Any.one 1 (by kernel_rfl) rfl rfl (One.of_ops rfl ?_)
                    refine Ops.str8 (f9.at_ hst107) rfl Try.underlying22 Try.underlying5 Try.underlying9 rfl (Ops.stop ?_)
                    refine ⟨trivial, ?_⟩
                    obtain ⟨s110, hy110, hf⟩ := bnd hf
                    refine Any.takeE 10 rfl rfl rfl rfl (by kernel_rfl) (fun _ _ _ _ _ h => h) ((Ex.addT hy110 rfl rfl).s) ?_
                    refine Any.takeE 11 rfl rfl rfl rfl (by kernel_rfl) (fun _ _ _ _ _ h => h) ((Ex.assign rfl).s) ?_
                    refine Any.done (by kernel_rfl) ?_
                    exact Run.sub (by exact subB_spec ⟨rfl, rfl, rfl, rfl, rfl, trivial⟩) (hj95 _ _ ⟨s110, Ha94, z91, hf, rfl, hm102, hle0, hm8, hA94, hst107⟩)
                · rintro e' w111 ⟨s106, Ha105, z104, hf, rfl, hz111, hy111_0, hy111_1, hA105, hst111⟩
                  replace f83 := f83.mono hz111; replace f84 := f84.mono hz111; replace f85 := f85.mono hz111; replace f92 := f92.mono hz111
                  unfold go_law04_FilesSafe.j1 at hf
                  refine Run.seq ?_
                  refine Run.region ?_
                  refine Ops.ex (Ex.move rfl) rfl rfl rfl ?_
                  obtain ⟨y112, hy112, hf⟩ := bnd hf
                  refine Ops.call rfl rfl Try.func16 (by kernel_rfl) (by kernel_rfl) rfl (go_files_Disk_Read.walk (Γ1 := Γ1) (p0 := y82.1) (p1 := [121]) (ar1 := y91.2.2) (hst := (St.mid (B := [blk g13 [.map (some gm83), .map (some gm84), .slice A85 y82.1.wait_.length c85, vi y82.1.room_, vi y82.1.left_, vb y82.1.down_, vi y82.1.calls_] 68, ob gm83 (.map E83 c83), ob gm84 (.map E84 c84), orow 78 1 (.slice A85 y82.1.wait_.length c85) y82.1.wait_.length d85]) (M := [orow 5 1 (.slice A92 y91.1.length c92) y91.1.length d92]) (Ha := Ha105) hst111)) (f1 := f83) (f2 := f84) (f3 := f85) (hA1 := hA105) (Ha1 := Ha105) (hf := hy112)) ?_
                  rintro _ w112 ⟨z112, A113, c113, d113, Ha115, rfl, hz112, f113, hA115, hst112⟩
                  replace hst112 : Ht w0 (frz z112 :: (blk g13 [.map (some gm83), .map (some gm84), .slice A85 y82.1.wait_.length c85, vi y82.1.room_, vi y82.1.left_, vb y82.1.down_, vi y82.1.calls_] 68) :: (ob gm83 (.map E83 c83)) :: (ob gm84 (.map E84 c84)) :: (orow 78 1 (.slice A85 y82.1.wait_.length c85) y82.1.wait_.length d85) :: (orow 5 1 (.slice A113 y112.1.length c113) y112.1.length d113) :: (orow 5 1 (.slice A92 y91.1.length c92) y91.1.length d92) :: (Ha115 ++ X)) _ := St.mid (B := [blk g13 [.map (some gm83), .map (some gm84), .slice A85 y82.1.wait_.length c85, vi y82.1.room_, vi y82.1.left_, vb y82.1.down_, vi y82.1.calls_] 68, ob gm83 (.map E83 c83), ob gm84 (.map E84 c84), orow 78 1 (.slice A85 y82.1.wait_.length c85) y82.1.wait_.length d85, orow 5 1 (.slice A113 y112.1.length c113) y112.1.length d113]) (M := Ha115) (Ha := [orow 5 1 (.slice A92 y91.1.length c92) y91.1.length d92]) hst112
                  refine ⟨_, rfl, ?_⟩
                  replace f83 := f83.mono hz112; replace f84 := f84.mono hz112; replace f85 := f85.mono hz112; replace f92 := f92.mono hz112
                  replace hy111_0 := hy111_0.trans hz112
                  replace hy111_1 := hy111_1.trans hz112
                  replace hz111 := hz111.trans hz112
                  refine Ops.ex (Ex.move rfl) rfl rfl rfl ?_
                  refine Ops.ex (Ex.extract rfl rfl) rfl rfl rfl ?_
                  refine Ops.ex (Ex.extract rfl rfl) rfl rfl rfl ?_
                  refine Ops.ex (Ex.assign rfl) rfl rfl rfl ?_
                  refine Ops.ex (Ex.assign rfl) rfl rfl rfl ?_
                  refine Ops.nil ?_
                  refine Run.seq ?_
                  refine Run.region ?_
                  refine Ops.ex (Ex.move rfl) rfl rfl rfl ?_
                  refine Ops.ex (Ex.eqlI rfl rfl) rfl rfl rfl ?_
                  refine Ops.ex (Ex.move rfl) rfl rfl rfl ?_
                  refine Ops.case 87 rfl (fun hc => ?_) (fun hc => ?_)
                  · replace hf := ifT (dec_T hc) hf
                    refine Ops.on rfl ?_
                    refine Ops.ex (Ex.move rfl) rfl rfl rfl ?_
                    refine Ops.on rfl ?_
                    refine Ops.str8 (own_slh f92 rfl (hst112.get (i := 6) rfl)) rfl Try.underlying22 Try.underlying5 Try.underlying9 rfl (?_)
                    refine Ops.on rfl ?_
                    refine Ops.ex (Ex.move rfl) rfl rfl rfl ?_
                    refine Ops.on rfl ?_
                    refine Ops.ex (Ex.eqlT rfl rfl) rfl rfl rfl ?_
                    refine Ops.ex (Ex.pickT rfl rfl) rfl rfl rfl ?_
                    refine Ops.ex (Ex.move rfl) rfl rfl rfl ?_
                    refine Ops.case 93 rfl (fun hc => ?_) (fun hc => ?_)
                    · replace hf := ifT (dec_T hc) hf
                      refine Ops.on rfl ?_
                      refine Ops.ex (Ex.move rfl) rfl rfl rfl ?_
                      refine Ops.on rfl ?_
                      refine Ops.ex (Ex.eqlI rfl rfl) rfl rfl rfl ?_
                      refine Ops.on rfl ?_
                      refine Ops.ex (Ex.move rfl) rfl rfl rfl ?_
                      refine Ops.on rfl ?_
                      refine Ops.ex (Ex.gtr rfl rfl) rfl rfl rfl ?_
                      refine Ops.on rfl ?_
                      refine Ops.ex (Ex.eqlBo rfl rfl Try.underlying4) rfl rfl rfl ?_
                      refine Ops.ex (Ex.pickT rfl rfl) rfl rfl rfl ?_
                      refine Ops.ex (Ex.assign rfl) rfl rfl rfl ?_
                      refine Ops.nil ?_
                      obtain rfl := Option.some.inj hf
                      exact Run.retV [vb (decide ((decide (y112.2.1 = 0)) = (decide ((0 : Int) < p2.toInt))))] rfl ⟨rfl, trivial⟩ ⟨z112, rfl, hy111_0, (St.forgetT (St.forget (St.forget (St.forget (St.forget (St.forget (St.forget hst112 6) 5) 4) 3) 2) 1))⟩
                    · replace hf := ifF (dec_F hc) hf
                      refine Ops.off rfl rfl ?_
                      refine Ops.off rfl rfl ?_
                      refine Ops.off rfl rfl ?_
                      refine Ops.off rfl rfl ?_
                      refine Ops.off rfl rfl ?_
                      refine Ops.ex (Ex.pickF rfl rfl) rfl rfl rfl ?_
                      refine Ops.ex (Ex.assign rfl) rfl rfl rfl ?_
                      refine Ops.nil ?_
                      obtain rfl := Option.some.inj hf
                      exact Run.retV [vb false] rfl ⟨rfl, trivial⟩ ⟨z112, rfl, hy111_0, (St.forgetT (St.forget (St.forget (St.forget (St.forget (St.forget (St.forget hst112 6) 5) 4) 3) 2) 1))⟩
                  · replace hf := ifF (dec_F hc) hf
                    refine Ops.off rfl rfl ?_
                    refine Ops.off rfl rfl ?_
                    refine Ops.off rfl rfl ?_
                    refine Ops.off rfl rfl ?_
                    refine Ops.ex (Ex.pickF rfl rfl) rfl rfl rfl ?_
                    refine Ops.ex (Ex.move rfl) rfl rfl rfl ?_
                    refine Ops.off rfl rfl ?_
                    refine Ops.off rfl rfl ?_
                    refine Ops.off rfl rfl ?_
                    refine Ops.off rfl rfl ?_
                    refine Ops.off rfl rfl ?_
                    refine Ops.ex (Ex.pickF rfl rfl) rfl rfl rfl ?_
                    refine Ops.ex (Ex.assign rfl) rfl rfl rfl ?_
                    refine Ops.nil ?_
                    obtain rfl := Option.some.inj hf
                    exact Run.retV [vb false] rfl ⟨rfl, trivial⟩ ⟨z112, rfl, hy111_0, (St.forgetT (St.forget (St.forget (St.forget (St.forget (St.forget (St.forget hst112 6) 5) 4) 3) 2) 1))⟩
def go_law04_FilesFull.j2 (nxb27 : (Int × List filesfile × Mp (Option Nat) × Mp (Option Nat) × List (List fileschange) × Int × Int × Bool × Int) → Option Bool) (y164 : Int × filesDisk × List filesfile) (x183 : Int) : Option Bool :=
  (go_files_Disk_Used y164.2.1 y164.2.2).bind fun y186 => if y186 = x183 then (nxb27 (x183, y164.2.2, y164.2.1.now_, y164.2.1.safe_, y164.2.1.wait_, y164.2.1.room_, y164.2.1.left_, y164.2.1.down_, y164.2.1.calls_)) else (some false)
def go_law04_FilesFull.j1 (x151 : Int) (nxb27 : (Int × List filesfile × Mp (Option Nat) × Mp (Option Nat) × List (List fileschange) × Int × Int × Bool × Int) → Option Bool) (l163 : List UInt8) (y164 : Int × filesDisk × List filesfile) (b178 : Bool) : Option Bool :=
  if b178 then (some false) else (if y164.1 = 0 then (go_law04_FilesFull.j2 nxb27 y164 (wr (x151 + (l163.length : Int)))) else (go_law04_FilesFull.j2 nxb27 y164 x151))
def go_law04_FilesFull.b1 (p0 : UInt8) (i27 : Nat) (a27 : List UInt8) : (Int × List filesfile × Mp (Option Nat) × Mp (Option Nat) × List (List fileschange) × Int × Int × Bool × Int) → (Int × List filesfile × Mp (Option Nat) × Mp (Option Nat) × List (List fileschange) × Int × Int × Bool × Int → Option Bool) → Option Bool :=
  fun (x151, ar152, mp153, mp154, l155, x156, x157, b158, x159) nxb27 => (cutI a27 0 (min (a27.length : Int) 60)).bind fun l163 => (go_files_Disk_Append (⟨mp153, mp154, l155, x156, x157, b158, x159⟩ : filesDisk) [120] l163 ar152).bind fun y164 => if (decide (y164.1 = 0)) = (decide (wr (x151 + (l163.length : Int)) ≤ (p0.toNat : Int))) then (if y164.1 = 0 then (go_law04_FilesFull.j1 x151 nxb27 l163 y164 false) else (go_law04_FilesFull.j1 x151 nxb27 l163 y164 (!(decide (y164.1 = 4))))) else (go_law04_FilesFull.j1 x151 nxb27 l163 y164 true)
def go_law04_FilesFull (p0 : UInt8) (p1 : List (List UInt8)) : Option Bool :=
  (go_law04_awake).bind fun y3 => if y3 then ((go_files_Of (p0.toNat : Int)).bind fun y5 => (go_files_Disk_Create y5 [120] ([] : List filesfile)).bind fun y15 => if y15.1 = 0 then ((cutI p1 0 (min (p1.length : Int) 30)).bind fun l26 => forL (go_law04_FilesFull.b1 p0) (fun (x151, ar152, mp153, mp154, l155, x156, x157, b158, x159) => (go_files_Disk_Cut (⟨mp153, mp154, l155, x156, x157, b158, x159⟩ : filesDisk) [120] x151 ar152).bind fun y189 => if y189.1 = 0 then ((go_files_Disk_Cut y189.2.1 [120] (wr (x151 + 1)) y189.2.2).bind fun y199 => some (decide (y199.1 = 14))) else (some false)) 0 l26 (0, y15.2.2, y15.2.1.now_, y15.2.1.safe_, y15.2.1.wait_, y15.2.1.room_, y15.2.1.left_, y15.2.1.down_, y15.2.1.calls_)) else (some false)) else (some false)
set_option maxRecDepth 100000 in
set_option maxHeartbeats 4000000 in
theorem go_law04_FilesFull.walk {w0 w : World} {X : List Res} {z0 : Zp} {p0 : UInt8} {p1 : List (List UInt8)} {A2 : Option Addr} {c2 : Nat} {r : Bool} (hst : Ht w0 (frz z0 :: X) w) (f2 : Sl (tSl tU8) z0 A2 c2 p1) (hf : go_law04_FilesFull p0 p1 = some r) :
    Calls Try.prog 5 #[vu8 p0, .slice A2 p1.length c2] w fun e w' => ∃ (z' : Zp), e = .returned (vb r) ∧ Le z0 z' ∧ Ht w0 (frz z' :: X) w' := by
  refine calls_np Try.func5 rfl rfl ?_
  have hle0 := Le.refl z0
  unfold go_law04_FilesFull at hf
  refine Run.seq ?_
  refine Run.region ?_
  refine Ops.ex (Ex.assign rfl) rfl rfl rfl ?_
  refine Ops.nil ?_
  refine Run.seq ?_
  refine Run.seq ?_
  refine Run.region ?_
  obtain ⟨y3, hy3, hf⟩ := bnd hf
  refine Ops.call rfl rfl Try.func11 (by kernel_rfl) (by kernel_rfl) rfl (go_law04_awake.walk (hst := hst) (hf := hy3)) ?_
  rintro _ w3 ⟨z3, rfl, hz3, hst3⟩
  refine ⟨_, rfl, ?_⟩
  replace f2 := f2.mono hz3
  replace hle0 := hle0.trans hz3
  refine Ops.ex (Ex.not rfl) rfl rfl rfl ?_
  refine Ops.nil ?_
  refine Run.cond rfl (fun hc => ?_) (fun hc => ?_)
  · replace hf := ifFb (bn_T hc) hf
    refine Run.seq ?_
    refine Run.region ?_
    refine Ops.ex (Ex.assign rfl) rfl rfl rfl ?_
    refine Ops.nil ?_
    obtain rfl := Option.some.inj hf
    exact Run.retV [vb false] rfl ⟨rfl, trivial⟩ ⟨z3, rfl, hle0, hst3⟩
  · replace hf := ifTb (bn_F hc) hf
    refine Run.skip ?_
    refine Run.seq ?_
    refine Run.region ?_
    refine Ops.ex (Ex.move rfl) rfl rfl rfl ?_
    refine Ops.ex (Ex.cu8 rfl Try.underlying5 Try.underlying3) rfl rfl rfl ?_
    obtain ⟨Γ1, hΓ6⟩ : ∃ L : List Nat, L = [] := ⟨_, rfl⟩
    have hA6 : Ar1 z3 Γ1 [] [] := ArL.nil _ _ hΓ6
    have hp6 := List.prefix_rfl (l := Γ1)
    have hst6 : Ht w0 (frz z3 :: ([] ++ X)) _ := hst3
    obtain ⟨y5, hy5, hf⟩ := bnd hf
    refine Ops.call rfl rfl Try.func12 (by kernel_rfl) (by kernel_rfl) rfl (go_files_Of.walk (Γ1 := Γ1) (p0 := (p0.toNat : Int)) (hst := hst6) (hf := hy5)) ?_
    rintro _ w5 ⟨z5, g7, gm8, E8, c8, gm9, E9, c9, A10, c10, d10, rfl, hz5, f8, f9, f10, hst5⟩
    refine ⟨_, rfl, ?_⟩
    replace f2 := f2.mono hz5; replace hA6 := hA6.mono hz5
    replace hle0 := hle0.trans hz5
    refine Ops.ex (Ex.assign rfl) rfl rfl rfl ?_
    refine Ops.nil ?_
    refine Run.seq ?_
    refine Run.seq ?_
    refine Run.region ?_
    refine Ops.ex (Ex.move rfl) rfl rfl rfl ?_
    obtain ⟨y15, hy15, hf⟩ := bnd hf
    refine Ops.call rfl rfl Try.func13 (by kernel_rfl) (by kernel_rfl) rfl (go_files_Disk_Create.walk (Γ1 := Γ1) (p0 := y5) (p1 := [120]) (ar1 := ([] : List filesfile)) (hst := hst5) (f1 := f8) (f2 := f9) (f3 := f10) (hA1 := hA6) (Ha1 := []) (hf := hy15)) ?_
    rintro _ w15 ⟨z15, gm17, E17, c17, gm18, E18, c18, A19, c19, d19, Ha24, Γ1, rfl, hz15, f17, f18, f19, hA24, hG1_25, hst15⟩
    replace hst15 : Ht w0 (frz z15 :: (blk g7 [.map (some gm17), .map (some gm18), .slice A19 y15.2.1.wait_.length c19, vi y15.2.1.room_, vi y15.2.1.left_, vb y15.2.1.down_, vi y15.2.1.calls_] 68) :: (ob gm17 (.map E17 c17)) :: (ob gm18 (.map E18 c18)) :: (orow 78 1 (.slice A19 y15.2.1.wait_.length c19) y15.2.1.wait_.length d19) :: (Ha24 ++ X)) _ := hst15
    refine ⟨_, rfl, ?_⟩
    replace f2 := f2.mono hz15
    replace hle0 := hle0.trans hz15
    replace hp6 := hp6.trans hG1_25
    refine Ops.ex (Ex.neqI rfl rfl) rfl rfl rfl ?_
    refine Ops.nil ?_
    refine Run.cond rfl (fun hc => ?_) (fun hc => ?_)
    · replace hf := ifF (neq_T hc) hf
      refine Run.seq ?_
      refine Run.region ?_
      refine Ops.ex (Ex.assign rfl) rfl rfl rfl ?_
      refine Ops.nil ?_
      obtain rfl := Option.some.inj hf
      exact Run.retV [vb false] rfl ⟨rfl, trivial⟩ ⟨z15, rfl, hle0, (St.forgetT (St.forget (St.forget (St.forget (St.forget hst15 4) 3) 2) 1))⟩
    · replace hf := ifT (neq_F hc) hf
      refine Run.skip ?_
      refine Run.seq ?_
      refine Run.region ?_
      refine Ops.ex (Ex.assign rfl) rfl rfl rfl ?_
      refine Ops.nil ?_
      refine Run.seq ?_
      refine Run.seq ?_
      refine Run.region ?_
      refine Ops.ex (Ex.move rfl) rfl rfl rfl ?_
      refine Ops.ex (Ex.move rfl) rfl rfl rfl ?_
      refine Ops.ex (Ex.len' rfl rfl rfl Try.underlying39) rfl rfl rfl ?_
      refine Ops.ex (Ex.min2 rfl rfl rfl) rfl rfl rfl ?_
      obtain ⟨l26, hy26, hf⟩ := bnd hf
      obtain ⟨A26, c26, hA26, hB26, f26⟩ := SlH.sub f2.toH hy26
      replace f26 := f26.toS
      refine Ops.ex (Ex.subA hA26 hB26 hy26 rfl rfl Try.underlying39 sz22 rfl rfl) rfl rfl rfl ?_
      refine Ops.ex (Ex.len' rfl rfl rfl Try.underlying39) rfl rfl rfl ?_
      refine Ops.ex (Ex.move rfl) rfl rfl rfl ?_
      refine Ops.nil ?_
      refine Run.block ?_
      have hc27 := f26.cap
      have hm28 := Le.refl z15
      have hp29 := List.prefix_rfl (l := Γ1)
      refine Run.sub (e' := [(0, vu8 p0), (5, .pointer (some ⟨g7, 0, none⟩)), (6, vi 0), (22, .slice A26 l26.length c26), (23, vi (l26.length : Int)), (24, vi ((0 : Nat) : Int))]) (subB_spec ⟨rfl, rfl, rfl, rfl, rfl, rfl, trivial⟩) ?_
      refine Run.loop (fun mb27 => (fun e' w' => ∃ (i27 : Nat) (x151 : Int) (ar152 : List filesfile) (mp153 : Mp (Option Nat)) (mp154 : Mp (Option Nat)) (l155 : List (List fileschange)) (x156 : Int) (x157 : Int) (b158 : Bool) (x159 : Int) (Ha152 : List Res) (g153 : Nat) (E153 : Array MapEntry) (c153 : Nat) (g154 : Nat) (E154 : Array MapEntry) (c154 : Nat) (A155 : Option Addr) (c155 : Nat) (d155 : List Value) (z150 : Zp), mb27 = l26.length - i27 ∧ i27 ≤ l26.length ∧ forL (go_law04_FilesFull.b1 p0) (fun (x151, ar152, mp153, mp154, l155, x156, x157, b158, x159) => (go_files_Disk_Cut (⟨mp153, mp154, l155, x156, x157, b158, x159⟩ : filesDisk) [120] x151 ar152).bind fun y189 => if y189.1 = 0 then ((go_files_Disk_Cut y189.2.1 [120] (wr (x151 + 1)) y189.2.2).bind fun y199 => some (decide (y199.1 = 14))) else (some false)) i27 (l26.drop i27) (x151, ar152, mp153, mp154, l155, x156, x157, b158, x159) = some r ∧ e' = [(0, vu8 p0), (5, .pointer (some ⟨g7, 0, none⟩)), (6, vi x151), (22, .slice A26 l26.length c26), (23, vi (l26.length : Int)), (24, vi (i27 : Int))] ∧ Le z15 z150 ∧ Le z0 z150 ∧ Ar1 z150 Γ1 ar152 Ha152 ∧ Mr (tA Γ1) pk1 z150 E153 c153 mp153 ∧ Mr (tA Γ1) pk1 z150 E154 c154 mp154 ∧ Cs (tSl (tfileschange Γ1)) z150 d155 l155 ∧ Ht w0 (frz z150 :: (ob g153 (.map E153 c153)) :: (ob g154 (.map E154 c154)) :: (orow 78 1 (.slice A155 l155.length c155) l155.length d155) :: (blk g7 [.map (some g153), .map (some g154), .slice A155 l155.length c155, vi x156, vi x157, vb b158, vi x159] 68) :: (Ha152 ++ X)) w')) l26.length ⟨0, 0, y15.2.2, y15.2.1.now_, y15.2.1.safe_, y15.2.1.wait_, y15.2.1.room_, y15.2.1.left_, y15.2.1.down_, y15.2.1.calls_, Ha24, gm17, E17, c17, gm18, E18, c18, A19, c19, d19, z15, rfl, Nat.zero_le _, hf, rfl, hm28, hle0, hA24, f17, f18, f19, (St.up (St.up (St.up (St.up (St.up hst15 1 rfl) 4 rfl) 4 rfl) 4 rfl) 4 rfl)⟩ ?_
      rintro _ e' w160 ⟨i27, x151, ar152, mp153, mp154, l155, x156, x157, b158, x159, Ha152, g153, E153, c153, g154, E154, c154, A155, c155, d155, z150, rfl, hi27, hf, rfl, hz160, hy160_0, hA152, f153, f154, f155, hst160⟩
      replace f26 := f26.mono hz160
      refine Run.seq ?_
      refine Run.region ?_
      refine Ops.ex (Ex.lss rfl rfl) rfl rfl rfl ?_
      refine Ops.nil ?_
      refine Run.seq ?_
      refine Run.cond rfl (fun hc => ?_) (fun hc => ?_)
      · have hl27 := lt_of_dec hc
        obtain ⟨a27, nxb27, ha27, hnxb27, hf⟩ := forL_in hf hl27
        unfold go_law04_FilesFull.b1 at hf
        try dsimp only at hf
        refine Run.skip ?_
        refine Run.seq ?_
        refine Run.block ?_
        refine Run.seq ?_
        refine Run.region ?_
        obtain ⟨g162, p162, o162, cs162, hA162, ho162, hr162, f162⟩ := SlH.elem f26.toH (atI_nat ha27)
        obtain ⟨A161, c161, rfl, f161⟩ := hr162
        refine Ops.ex (Ex.ixA hA162 ho162 (atI_nat ha27) rfl rfl rfl Try.underlying39 sz22) rfl rfl rfl ?_
        refine Ops.load rfl Try.underlying22 rfl ((f162.mono hst160.le) 0 _ rfl) rfl ?_
        refine Ops.ex (Ex.assign rfl) rfl rfl rfl ?_
        refine Ops.nil ?_
        refine Run.seq ?_
        refine Run.region ?_
        refine Ops.ex (Ex.move rfl) rfl rfl rfl ?_
        refine Ops.ex (Ex.move rfl) rfl rfl rfl ?_
        refine Ops.ex (Ex.len' rfl rfl rfl Try.underlying22) rfl rfl rfl ?_
        refine Ops.ex (Ex.min2 rfl rfl rfl) rfl rfl rfl ?_
        obtain ⟨l163, hy163, hf⟩ := bnd hf
        obtain ⟨A163, c163, hA163, hB163, f163⟩ := SlH.sub f161.toH hy163
        replace f163 := f163.toS
        refine Ops.ex (Ex.subA hA163 hB163 hy163 rfl rfl Try.underlying22 sz5 rfl rfl) rfl rfl rfl ?_
        refine Ops.ex (Ex.assign rfl) rfl rfl rfl ?_
        refine Ops.nil ?_
        refine Run.seq ?_
        refine Run.region ?_
        refine Ops.ex (Ex.move rfl) rfl rfl rfl ?_
        refine Ops.ex (Ex.move rfl) rfl rfl rfl ?_
        obtain ⟨y164, hy164, hf⟩ := bnd hf
        refine Ops.call rfl rfl Try.func14 (by kernel_rfl) (by kernel_rfl) rfl (go_files_Disk_Append.walk (Γ1 := Γ1) (p0 := (⟨mp153, mp154, l155, x156, x157, b158, x159⟩ : filesDisk)) (p1 := [120]) (p2 := l163) (ar1 := ar152) (hst := (St.up (St.up (St.up (St.up (St.up hst160 3 rfl) 3 rfl) 3 rfl) 4 rfl) 4 rfl)) (f1 := f153) (f2 := f154) (f3 := f155) (f9 := f163) (hA1 := hA152) (Ha1 := Ha152) (hf := hy164)) ?_
        rintro _ w164 ⟨z164, gm166, E166, c166, gm167, E167, c167, A168, c168, d168, Ha173, rfl, hz164, f166, f167, f168, hA173, hst164⟩
        replace hst164 : Ht w0 (frz z164 :: (blk g7 [.map (some gm166), .map (some gm167), .slice A168 y164.2.1.wait_.length c168, vi y164.2.1.room_, vi y164.2.1.left_, vb y164.2.1.down_, vi y164.2.1.calls_] 68) :: (ob gm166 (.map E166 c166)) :: (ob gm167 (.map E167 c167)) :: (orow 78 1 (.slice A168 y164.2.1.wait_.length c168) y164.2.1.wait_.length d168) :: (Ha173 ++ X)) _ := hst164
        refine ⟨_, rfl, ?_⟩
        replace f26 := f26.mono hz164; replace f162 := f162.mono hz164; replace f161 := f161.mono hz164; replace f163 := f163.mono hz164
        replace hy160_0 := hy160_0.trans hz164
        replace hz160 := hz160.trans hz164
        refine Ops.ex (Ex.assign rfl) rfl rfl rfl ?_
        refine Ops.nil ?_
        refine Run.seq ?_
        refine Run.seq ?_
        have hm175 := Le.refl z164
        apply Run.jn (fun e' w' => ∃ (b178 : Bool) (Ha177 : List Res) (z176 : Zp), go_law04_FilesFull.j1 x151 nxb27 l163 y164 b178 = some r ∧ e' = [(0, vu8 p0), (5, .pointer (some ⟨g7, 0, none⟩)), (6, vi x151), (8, .slice A163 l163.length c163), (9, vi y164.1), (22, .slice A26 l26.length c26), (23, vi (l26.length : Int)), (24, vi (i27 : Int)), (53, vb b178)] ∧ Le z164 z176 ∧ Le z0 z176 ∧ Le z15 z176 ∧ Ar1 z176 Γ1 y164.2.2 Ha177 ∧ Ht w0 (frz z176 :: (blk g7 [.map (some gm166), .map (some gm167), .slice A168 y164.2.1.wait_.length c168, vi y164.2.1.room_, vi y164.2.1.left_, vb y164.2.1.down_, vi y164.2.1.calls_] 68) :: (ob gm166 (.map E166 c166)) :: (ob gm167 (.map E167 c167)) :: (orow 78 1 (.slice A168 y164.2.1.wait_.length c168) y164.2.1.wait_.length d168) :: (Ha177 ++ X)) w')
        · intro hj174
          refine Run.region ?_
          refine Ops.ex (Ex.move rfl) rfl rfl rfl ?_
          refine Ops.ex (Ex.eqlI rfl rfl) rfl rfl rfl ?_
          refine Ops.ex (Ex.move rfl) rfl rfl rfl ?_
          refine Ops.ex (Ex.move rfl) rfl rfl rfl ?_
          refine Ops.ex (Ex.len' rfl rfl rfl Try.underlying22) rfl rfl rfl ?_
          refine Ops.ex (Ex.add rfl rfl) rfl rfl rfl ?_
          refine Ops.ex (Ex.move rfl) rfl rfl rfl ?_
          refine Ops.ex (Ex.cu8 rfl Try.underlying5 Try.underlying3) rfl rfl rfl ?_
          refine Ops.ex (Ex.leq rfl rfl) rfl rfl rfl ?_
          refine Ops.ex (Ex.neqBo rfl rfl Try.underlying4) rfl rfl rfl ?_
          refine Ops.ex (Ex.move rfl) rfl rfl rfl ?_
          refine Ops.case 46 rfl (fun hc => ?_) (fun hc => ?_)
          · replace hf := ifF (neq_T hc) hf
            refine Ops.off rfl rfl ?_
            refine Ops.off rfl rfl ?_
            refine Ops.off rfl rfl ?_
            refine Ops.offU rfl rfl ?_
            refine Ops.offU rfl rfl ?_
            refine Ops.off rfl rfl ?_
            refine Ops.ex (Ex.pickT rfl rfl) rfl rfl rfl ?_
            refine Ops.nil ?_
            exact Run.sub (by exact subB_spec ⟨rfl, rfl, rfl, rfl, rfl, rfl, rfl, rfl, rfl, trivial⟩) (hj174 _ _ ⟨true, Ha173, z164, hf, rfl, hm175, hy160_0, hz160, hA173, hst164⟩)
          · replace hf := ifT (neq_F hc) hf
            refine Ops.on rfl ?_
            refine Ops.ex (Ex.move rfl) rfl rfl rfl ?_
            refine Ops.on rfl ?_
            refine Ops.ex (Ex.neqI rfl rfl) rfl rfl rfl ?_
            refine Ops.on rfl ?_
            refine Ops.ex (Ex.move rfl) rfl rfl rfl ?_
            refine Ops.case 49 rfl (fun hc => ?_) (fun hc => ?_)
            · replace hf := ifF (neq_T hc) hf
              refine Ops.on rfl ?_
              refine Ops.ex (Ex.move rfl) rfl rfl rfl ?_
              refine Ops.on rfl ?_
              refine Ops.ex (Ex.neqI rfl rfl) rfl rfl rfl ?_
              refine Ops.on rfl ?_
              refine Ops.ex (Ex.pickT rfl rfl) rfl rfl rfl ?_
              refine Ops.ex (Ex.pickF rfl rfl) rfl rfl rfl ?_
              refine Ops.nil ?_
              exact Run.sub (by exact subB_spec ⟨rfl, rfl, rfl, rfl, rfl, rfl, rfl, rfl, rfl, trivial⟩) (hj174 _ _ ⟨!(decide (y164.1 = 4)), Ha173, z164, hf, rfl, hm175, hy160_0, hz160, hA173, hst164⟩)
            · replace hf := ifT (neq_F hc) hf
              refine Ops.off rfl rfl ?_
              refine Ops.off rfl rfl ?_
              refine Ops.on rfl ?_
              refine Ops.ex (Ex.pickF rfl rfl) rfl rfl rfl ?_
              refine Ops.ex (Ex.pickF rfl rfl) rfl rfl rfl ?_
              refine Ops.nil ?_
              exact Run.sub (by exact subB_spec ⟨rfl, rfl, rfl, rfl, rfl, rfl, rfl, rfl, rfl, trivial⟩) (hj174 _ _ ⟨false, Ha173, z164, hf, rfl, hm175, hy160_0, hz160, hA173, hst164⟩)
        · rintro e' w179 ⟨b178, Ha177, z176, hf, rfl, hz179, hy179_0, hy179_1, hA177, hst179⟩
          replace f163 := f163.mono hz179; replace f26 := f26.mono hz179; replace f166 := f166.mono hz179; replace f167 := f167.mono hz179; replace f168 := f168.mono hz179
          unfold go_law04_FilesFull.j1 at hf
          refine Run.cond rfl (fun hc => ?_) (fun hc => ?_)
          · replace hf := ifTb hc hf
            refine Run.seq ?_
            refine Run.region ?_
            refine Ops.ex (Ex.assign rfl) rfl rfl rfl ?_
            refine Ops.nil ?_
            obtain rfl := Option.some.inj hf
            exact Run.retV [vb false] rfl ⟨rfl, trivial⟩ ⟨z176, rfl, hy179_0, (St.forgetT (St.forget (St.forget (St.forget (St.forget hst179 4) 3) 2) 1))⟩
          · replace hf := ifFb hc hf
            refine Run.skip ?_
            refine Run.seq ?_
            refine Run.seq ?_
            refine Run.region ?_
            refine Ops.ex (Ex.move rfl) rfl rfl rfl ?_
            refine Ops.ex (Ex.eqlI rfl rfl) rfl rfl rfl ?_
            refine Ops.nil ?_
            have hm181 := Le.refl z176
            apply Run.jn (fun e' w' => ∃ (x183 : Int) (Ha184 : List Res) (z182 : Zp), go_law04_FilesFull.j2 nxb27 y164 x183 = some r ∧ e' = [(0, vu8 p0), (5, .pointer (some ⟨g7, 0, none⟩)), (6, vi x183), (22, .slice A26 l26.length c26), (23, vi (l26.length : Int)), (24, vi (i27 : Int))] ∧ Le z176 z182 ∧ Le z0 z182 ∧ Le z15 z182 ∧ Le z164 z182 ∧ Ar1 z182 Γ1 y164.2.2 Ha184 ∧ Ht w0 (frz z182 :: (blk g7 [.map (some gm166), .map (some gm167), .slice A168 y164.2.1.wait_.length c168, vi y164.2.1.room_, vi y164.2.1.left_, vb y164.2.1.down_, vi y164.2.1.calls_] 68) :: (ob gm166 (.map E166 c166)) :: (ob gm167 (.map E167 c167)) :: (orow 78 1 (.slice A168 y164.2.1.wait_.length c168) y164.2.1.wait_.length d168) :: (Ha184 ++ X)) w')
            · intro hj180
              refine Run.cond rfl (fun hc => ?_) (fun hc => ?_)
              · replace hf := ifT (dec_T hc) hf
                refine Run.region ?_
                refine Ops.ex (Ex.move rfl) rfl rfl rfl ?_
                refine Ops.ex (Ex.move rfl) rfl rfl rfl ?_
                refine Ops.ex (Ex.len' rfl rfl rfl Try.underlying22) rfl rfl rfl ?_
                refine Ops.ex (Ex.add rfl rfl) rfl rfl rfl ?_
                refine Ops.ex (Ex.assign rfl) rfl rfl rfl ?_
                refine Ops.nil ?_
                exact Run.sub (by exact subB_spec ⟨rfl, rfl, rfl, rfl, rfl, rfl, trivial⟩) (hj180 _ _ ⟨wr (x151 + (l163.length : Int)), Ha177, z176, hf, rfl, hm181, hy179_0, hy179_1, hz179, hA177, hst179⟩)
              · replace hf := ifF (dec_F hc) hf
                refine Run.skip ?_
                exact Run.sub (by exact subB_spec ⟨rfl, rfl, rfl, rfl, rfl, rfl, trivial⟩) (hj180 _ _ ⟨x151, Ha177, z176, hf, rfl, hm181, hy179_0, hy179_1, hz179, hA177, hst179⟩)
            · rintro e' w185 ⟨x183, Ha184, z182, hf, rfl, hz185, hy185_0, hy185_1, hy185_2, hA184, hst185⟩
              replace f26 := f26.mono hz185; replace f166 := f166.mono hz185; replace f167 := f167.mono hz185; replace f168 := f168.mono hz185
              unfold go_law04_FilesFull.j2 at hf
              refine Run.seq ?_
              refine Run.region ?_
              refine Ops.ex (Ex.move rfl) rfl rfl rfl ?_
              obtain ⟨y186, hy186, hf⟩ := bnd hf
              refine Ops.call rfl rfl Try.func21 (by kernel_rfl) (by kernel_rfl) rfl (go_files_Disk_Used.walk (Γ1 := Γ1) (p0 := y164.2.1) (ar1 := y164.2.2) (hst := hst185) (f1 := f166) (f2 := f167) (f3 := f168) (hA1 := hA184) (Ha1 := Ha184) (hf := hy186)) ?_
              rintro _ w186 ⟨z186, Ha188, rfl, hz186, hA188, hst186⟩
              replace hst186 : Ht w0 (frz z186 :: (blk g7 [.map (some gm166), .map (some gm167), .slice A168 y164.2.1.wait_.length c168, vi y164.2.1.room_, vi y164.2.1.left_, vb y164.2.1.down_, vi y164.2.1.calls_] 68) :: (ob gm166 (.map E166 c166)) :: (ob gm167 (.map E167 c167)) :: (orow 78 1 (.slice A168 y164.2.1.wait_.length c168) y164.2.1.wait_.length d168) :: (Ha188 ++ X)) _ := hst186
              refine ⟨_, rfl, ?_⟩
              replace f26 := f26.mono hz186; replace f166 := f166.mono hz186; replace f167 := f167.mono hz186; replace f168 := f168.mono hz186
              replace hy185_0 := hy185_0.trans hz186
              replace hy185_1 := hy185_1.trans hz186
              replace hy185_2 := hy185_2.trans hz186
              replace hz185 := hz185.trans hz186
              refine Ops.ex (Ex.move rfl) rfl rfl rfl ?_
              refine Ops.ex (Ex.neqI rfl rfl) rfl rfl rfl ?_
              refine Ops.nil ?_
              refine Run.cond rfl (fun hc => ?_) (fun hc => ?_)
              · replace hf := ifF (neq_T hc) hf
                refine Run.seq ?_
                refine Run.region ?_
                refine Ops.ex (Ex.assign rfl) rfl rfl rfl ?_
                refine Ops.nil ?_
                obtain rfl := Option.some.inj hf
                exact Run.retV [vb false] rfl ⟨rfl, trivial⟩ ⟨z186, rfl, hy185_0, (St.forgetT (St.forget (St.forget (St.forget (St.forget hst186 4) 3) 2) 1))⟩
              · replace hf := ifT (neq_F hc) hf
                refine Run.skip ?_
                refine Run.endBlk ?_
                refine Run.region ?_
                refine Ops.ex (Ex.add rfl rfl) rfl rfl rfl ?_
                refine Ops.ex (Ex.move rfl) rfl rfl rfl ?_
                refine Ops.nil ?_
                refine Run.re 24 rfl (congrArg vi (wr_succ' hl27 hc27)) ?_
                exact Run.sub (by exact subB_spec ⟨rfl, rfl, rfl, rfl, rfl, rfl, trivial⟩) (Run.stop ⟨l26.length - (i27 + 1), by omega, i27 + 1, x183, y164.2.2, y164.2.1.now_, y164.2.1.safe_, y164.2.1.wait_, y164.2.1.room_, y164.2.1.left_, y164.2.1.down_, y164.2.1.calls_, Ha188, gm166, E166, c166, gm167, E167, c167, A168, c168, d168, z186, rfl, by omega, (hnxb27 _).symm.trans hf, rfl, hy185_1, hy185_0, hA188, f166, f167, f168, (St.up (St.up (St.up (St.up (St.up hst186 1 rfl) 4 rfl) 4 rfl) 4 rfl) 4 rfl)⟩)
      · replace hf := forL_out hf (nlt_of_dec hc)
        try dsimp only at hf
        refine Run.exit _ rfl ?_
        refine Run.seq ?_
        refine Run.region ?_
        refine Ops.ex (Ex.move rfl) rfl rfl rfl ?_
        refine Ops.ex (Ex.move rfl) rfl rfl rfl ?_
        obtain ⟨y189, hy189, hf⟩ := bnd hf
        refine Ops.call rfl rfl Try.func22 (by kernel_rfl) (by kernel_rfl) rfl (go_files_Disk_Cut.walk (Γ1 := Γ1) (p0 := (⟨mp153, mp154, l155, x156, x157, b158, x159⟩ : filesDisk)) (p1 := [120]) (p2 := x151) (ar1 := ar152) (hst := (St.up (St.up (St.up (St.up (St.up hst160 3 rfl) 3 rfl) 3 rfl) 4 rfl) 4 rfl)) (f1 := f153) (f2 := f154) (f3 := f155) (hA1 := hA152) (Ha1 := Ha152) (hf := hy189)) ?_
        rintro _ w189 ⟨z189, gm191, E191, c191, gm192, E192, c192, A193, c193, d193, Ha198, rfl, hz189, f191, f192, f193, hA198, hst189⟩
        replace hst189 : Ht w0 (frz z189 :: (blk g7 [.map (some gm191), .map (some gm192), .slice A193 y189.2.1.wait_.length c193, vi y189.2.1.room_, vi y189.2.1.left_, vb y189.2.1.down_, vi y189.2.1.calls_] 68) :: (ob gm191 (.map E191 c191)) :: (ob gm192 (.map E192 c192)) :: (orow 78 1 (.slice A193 y189.2.1.wait_.length c193) y189.2.1.wait_.length d193) :: (Ha198 ++ X)) _ := hst189
        refine ⟨_, rfl, ?_⟩
        replace f26 := f26.mono hz189
        replace hy160_0 := hy160_0.trans hz189
        replace hz160 := hz160.trans hz189
        refine Ops.ex (Ex.eqlI rfl rfl) rfl rfl rfl ?_
        refine Ops.ex (Ex.move rfl) rfl rfl rfl ?_
        refine Ops.case 69 rfl (fun hc => ?_) (fun hc => ?_)
        · replace hf := ifT (dec_T hc) hf
          refine Ops.on rfl ?_
          refine Ops.ex (Ex.move rfl) rfl rfl rfl ?_
          refine Ops.on rfl ?_
          refine Ops.ex (Ex.move rfl) rfl rfl rfl ?_
          refine Ops.on rfl ?_
          refine Ops.ex (Ex.add rfl rfl) rfl rfl rfl ?_
          refine Ops.on rfl ?_
          obtain ⟨y199, hy199, hf⟩ := bnd hf
          refine Ops.call rfl rfl Try.func22 (by kernel_rfl) (by kernel_rfl) rfl (go_files_Disk_Cut.walk (Γ1 := Γ1) (p0 := y189.2.1) (p1 := [120]) (p2 := (wr (x151 + 1))) (ar1 := y189.2.2) (hst := hst189) (f1 := f191) (f2 := f192) (f3 := f193) (hA1 := hA198) (Ha1 := Ha198) (hf := hy199)) ?_
          rintro _ w199 ⟨z199, gm201, E201, c201, gm202, E202, c202, A203, c203, d203, Ha208, rfl, hz199, f201, f202, f203, hA208, hst199⟩
          replace hst199 : Ht w0 (frz z199 :: (blk g7 [.map (some gm201), .map (some gm202), .slice A203 y199.2.1.wait_.length c203, vi y199.2.1.room_, vi y199.2.1.left_, vb y199.2.1.down_, vi y199.2.1.calls_] 68) :: (ob gm201 (.map E201 c201)) :: (ob gm202 (.map E202 c202)) :: (orow 78 1 (.slice A203 y199.2.1.wait_.length c203) y199.2.1.wait_.length d203) :: (Ha208 ++ X)) _ := hst199
          refine ⟨_, rfl, ?_⟩
          replace f26 := f26.mono hz199
          replace hy160_0 := hy160_0.trans hz199
          replace hz160 := hz160.trans hz199
          refine Ops.on rfl ?_
          refine Ops.ex (Ex.eqlI rfl rfl) rfl rfl rfl ?_
          refine Ops.ex (Ex.pickT rfl rfl) rfl rfl rfl ?_
          refine Ops.ex (Ex.assign rfl) rfl rfl rfl ?_
          refine Ops.nil ?_
          obtain rfl := Option.some.inj hf
          exact Run.retV [vb (decide (y199.1 = 14))] rfl ⟨rfl, trivial⟩ ⟨z199, rfl, hy160_0, (St.forgetT (St.forget (St.forget (St.forget (St.forget hst199 4) 3) 2) 1))⟩
        · replace hf := ifF (dec_F hc) hf
          refine Ops.off rfl rfl ?_
          refine Ops.off rfl rfl ?_
          refine Ops.off rfl rfl ?_
          refine Ops.off rfl rfl ?_
          refine Ops.off rfl rfl ?_
          refine Ops.ex (Ex.pickF rfl rfl) rfl rfl rfl ?_
          refine Ops.ex (Ex.assign rfl) rfl rfl rfl ?_
          refine Ops.nil ?_
          obtain rfl := Option.some.inj hf
          exact Run.retV [vb false] rfl ⟨rfl, trivial⟩ ⟨z189, rfl, hy160_0, (St.forgetT (St.forget (St.forget (St.forget (St.forget hst189 4) 3) 2) 1))⟩
def go_law04_FilesCut.j2 (b138 : Bool) : Option Bool :=
  some b138
def go_law04_FilesCut.j1 (p1 : UInt8) (p3 : UInt8) (l9 : List UInt8) (l10 : List UInt8) (y72 : Int × filesDisk × List filesfile) (y82 : List UInt8 × Int × List filesfile) (b101 : Bool) : Option Bool :=
  if b101 then (some false) else ((go_files_Disk_Restart y72.2.1 0 (p3.toNat : Int) y82.2.2).bind fun y111 => (go_files_Disk_Read y111.1 [120] y111.2).bind fun y120 => if y120.2.1 = 0 then ((cutI l9 0 (Int.tmod (p1.toNat : Int) (wr ((l9.length : Int) + 1)))).bind fun l140 => (cutI l10 0 (min (l10.length : Int) (p3.toNat : Int))).bind fun l141 => (catI l140 l141).bind fun s142 => go_law04_FilesCut.j2 (decide (y120.1 = s142))) else (go_law04_FilesCut.j2 false))
def go_law04_FilesCut (p0 : List UInt8) (p1 : UInt8) (p2 : List UInt8) (p3 : UInt8) : Option Bool :=
  (go_law04_awake).bind fun y5 => if y5 then ((cutI p0 0 (min (p0.length : Int) 100)).bind fun l9 => (cutI p2 0 (min (p2.length : Int) 100)).bind fun l10 => (nzI (wr ((l9.length : Int) + 1))).bind fun _ => (go_files_Of 400).bind fun y12 => (go_files_Disk_Create y12 [120] ([] : List filesfile)).bind fun y22 => if y22.1 = 0 then ((go_files_Disk_SyncDir y22.2.1).bind fun y33 => if y33.1 = 0 then ((go_files_Disk_Append y33.2 [120] l9 y22.2.2).bind fun y42 => if y42.1 = 0 then ((go_files_Disk_Sync y42.2.1 [120] y42.2.2).bind fun y52 => if y52.1 = 0 then ((go_files_Disk_Cut y52.2.1 [120] (Int.tmod (p1.toNat : Int) (wr ((l9.length : Int) + 1))) y52.2.2).bind fun y62 => if y62.1 = 0 then ((go_files_Disk_Append y62.2.1 [120] l10 y62.2.2).bind fun y72 => if y72.1 = 0 then ((go_files_Disk_Read y72.2.1 [120] y72.2.2).bind fun y82 => if y82.2.1 = 0 then ((cutI l9 0 (Int.tmod (p1.toNat : Int) (wr ((l9.length : Int) + 1)))).bind fun l103 => (catI l103 l10).bind fun s104 => go_law04_FilesCut.j1 p1 p3 l9 l10 y72 y82 (!(decide (y82.1 = s104)))) else (go_law04_FilesCut.j1 p1 p3 l9 l10 y72 y82 true)) else (some false)) else (some false)) else (some false)) else (some false)) else (some false)) else (some false)) else (some false)
set_option maxRecDepth 100000 in
set_option maxHeartbeats 4000000 in
theorem go_law04_FilesCut.walk {w0 w : World} {X : List Res} {z0 : Zp} {p0 : List UInt8} {A1 : Option Addr} {c1 : Nat} {p1 : UInt8} {p2 : List UInt8} {A3 : Option Addr} {c3 : Nat} {p3 : UInt8} {r : Bool} (hst : Ht w0 (frz z0 :: X) w) (f1 : Sl tU8 z0 A1 c1 p0) (f3 : Sl tU8 z0 A3 c3 p2) (hf : go_law04_FilesCut p0 p1 p2 p3 = some r) :
    Calls Try.prog 7 #[.slice A1 p0.length c1, vu8 p1, .slice A3 p2.length c3, vu8 p3] w fun e w' => ∃ (z' : Zp), e = .returned (vb r) ∧ Le z0 z' ∧ Ht w0 (frz z' :: X) w' := by
  refine calls_np Try.func7 rfl rfl ?_
  have hle0 := Le.refl z0
  unfold go_law04_FilesCut at hf
  refine Run.seq ?_
  refine Run.region ?_
  refine Ops.ex (Ex.assign rfl) rfl rfl rfl ?_
  refine Ops.nil ?_
  refine Run.seq ?_
  refine Run.seq ?_
  refine Run.region ?_
  obtain ⟨y5, hy5, hf⟩ := bnd hf
  refine Ops.call rfl rfl Try.func11 (by kernel_rfl) (by kernel_rfl) rfl (go_law04_awake.walk (hst := hst) (hf := hy5)) ?_
  rintro _ w5 ⟨z5, rfl, hz5, hst5⟩
  refine ⟨_, rfl, ?_⟩
  replace f1 := f1.mono hz5; replace f3 := f3.mono hz5
  replace hle0 := hle0.trans hz5
  refine Ops.ex (Ex.not rfl) rfl rfl rfl ?_
  refine Ops.nil ?_
  refine Run.cond rfl (fun hc => ?_) (fun hc => ?_)
  · replace hf := ifFb (bn_T hc) hf
    refine Run.seq ?_
    refine Run.region ?_
    refine Ops.ex (Ex.assign rfl) rfl rfl rfl ?_
    refine Ops.nil ?_
    obtain rfl := Option.some.inj hf
    exact Run.retV [vb false] rfl ⟨rfl, trivial⟩ ⟨z5, rfl, hle0, hst5⟩
  · replace hf := ifTb (bn_F hc) hf
    refine Run.skip ?_
    refine Run.seq ?_
    have hm8 := Le.refl z5
    refine Run.drawH [] (by kernel_rfl) hst5 (fun w7 hst7 => ?_)
    refine Any.takeE 0 rfl rfl rfl rfl (by kernel_rfl) (fun _ _ _ _ _ h => h) ((Ex.move rfl).s) ?_
    refine Any.takeE 1 rfl rfl rfl rfl (by kernel_rfl) (fun _ _ _ _ _ h => h) ((Ex.move rfl).s) ?_
    refine Any.takeE 2 rfl rfl rfl rfl (by kernel_rfl) (fun _ _ _ _ _ h => h) ((Ex.len' rfl rfl rfl Try.underlying22).s) ?_
    refine Any.takeE 3 rfl rfl rfl rfl (by kernel_rfl) (fun _ _ _ _ _ h => h) ((Ex.min2 rfl rfl rfl).s) ?_
    obtain ⟨l9, hy9, hf⟩ := bnd hf
    obtain ⟨A9, c9, hA9, hB9, f9⟩ := SlH.sub f1.toH hy9
    replace f9 := f9.toS
    refine Any.takeE 4 rfl rfl rfl rfl (by kernel_rfl) (fun _ _ _ _ _ h => h) ((Ex.subA hA9 hB9 hy9 rfl rfl Try.underlying22 sz5 rfl rfl).s) ?_
    refine Any.takeE 5 rfl rfl rfl rfl (by kernel_rfl) (fun _ _ _ _ _ h => h) ((Ex.move rfl).s) ?_
    refine Any.takeE 6 rfl rfl rfl rfl (by kernel_rfl) (fun _ _ _ _ _ h => h) ((Ex.move rfl).s) ?_
    refine Any.takeE 7 rfl rfl rfl rfl (by kernel_rfl) (fun _ _ _ _ _ h => h) ((Ex.len' rfl rfl rfl Try.underlying22).s) ?_
    refine Any.takeE 8 rfl rfl rfl rfl (by kernel_rfl) (fun _ _ _ _ _ h => h) ((Ex.min2 rfl rfl rfl).s) ?_
    obtain ⟨l10, hy10, hf⟩ := bnd hf
    obtain ⟨A10, c10, hA10, hB10, f10⟩ := SlH.sub f3.toH hy10
    replace f10 := f10.toS
    refine Any.takeE 9 rfl rfl rfl rfl (by kernel_rfl) (fun _ _ _ _ _ h => h) ((Ex.subA hA10 hB10 hy10 rfl rfl Try.underlying22 sz5 rfl rfl).s) ?_
    refine Any.takeE 10 rfl rfl rfl rfl (by kernel_rfl) (fun _ _ _ _ _ h => h) ((Ex.assign rfl).s) ?_
    refine Any.takeE 11 rfl rfl rfl rfl (by kernel_rfl) (fun _ _ _ _ _ h => h) ((Ex.assign rfl).s) ?_
    refine Any.done (by kernel_rfl) ?_
    refine Run.seq ?_
    refine Run.region ?_
    refine Ops.ex (Ex.move rfl) rfl rfl rfl ?_
    refine Ops.ex (Ex.cu8 rfl Try.underlying5 Try.underlying3) rfl rfl rfl ?_
    refine Ops.ex (Ex.move rfl) rfl rfl rfl ?_
    refine Ops.ex (Ex.len' rfl rfl rfl Try.underlying22) rfl rfl rfl ?_
    refine Ops.ex (Ex.add rfl rfl) rfl rfl rfl ?_
    obtain ⟨_, hy11, hf⟩ := bnd hf
    refine Ops.ex (Ex.rem rfl rfl (nzI_some hy11)) rfl rfl rfl ?_
    refine Ops.ex (Ex.assign rfl) rfl rfl rfl ?_
    refine Ops.nil ?_
    refine Run.seq ?_
    refine Run.region ?_
    obtain ⟨Γ1, hΓ13⟩ : ∃ L : List Nat, L = [] := ⟨_, rfl⟩
    have hA13 : Ar1 z5 Γ1 [] [] := ArL.nil _ _ hΓ13
    have hp13 := List.prefix_rfl (l := Γ1)
    have hst13 : Ht w0 (frz z5 :: ([] ++ X)) _ := hst7
    obtain ⟨y12, hy12, hf⟩ := bnd hf
    refine Ops.call rfl rfl Try.func12 (by kernel_rfl) (by kernel_rfl) rfl (go_files_Of.walk (Γ1 := Γ1) (p0 := 400) (hst := hst13) (hf := hy12)) ?_
    rintro _ w12 ⟨z12, g14, gm15, E15, c15, gm16, E16, c16, A17, c17, d17, rfl, hz12, f15, f16, f17, hst12⟩
    refine ⟨_, rfl, ?_⟩
    replace f9 := f9.mono hz12; replace f10 := f10.mono hz12; replace f1 := f1.mono hz12; replace f3 := f3.mono hz12; replace hA13 := hA13.mono hz12
    replace hle0 := hle0.trans hz12
    replace hm8 := hm8.trans hz12
    refine Ops.ex (Ex.assign rfl) rfl rfl rfl ?_
    refine Ops.nil ?_
    refine Run.seq ?_
    refine Run.seq ?_
    refine Run.region ?_
    refine Ops.ex (Ex.move rfl) rfl rfl rfl ?_
    obtain ⟨y22, hy22, hf⟩ := bnd hf
    refine Ops.call rfl rfl Try.func13 (by kernel_rfl) (by kernel_rfl) rfl (go_files_Disk_Create.walk (Γ1 := Γ1) (p0 := y12) (p1 := [120]) (ar1 := ([] : List filesfile)) (hst := hst12) (f1 := f15) (f2 := f16) (f3 := f17) (hA1 := hA13) (Ha1 := []) (hf := hy22)) ?_
    rintro _ w22 ⟨z22, gm24, E24, c24, gm25, E25, c25, A26, c26, d26, Ha31, Γ1, rfl, hz22, f24, f25, f26, hA31, hG1_32, hst22⟩
    replace hst22 : Ht w0 (frz z22 :: (blk g14 [.map (some gm24), .map (some gm25), .slice A26 y22.2.1.wait_.length c26, vi y22.2.1.room_, vi y22.2.1.left_, vb y22.2.1.down_, vi y22.2.1.calls_] 68) :: (ob gm24 (.map E24 c24)) :: (ob gm25 (.map E25 c25)) :: (orow 78 1 (.slice A26 y22.2.1.wait_.length c26) y22.2.1.wait_.length d26) :: (Ha31 ++ X)) _ := hst22
    refine ⟨_, rfl, ?_⟩
    replace f9 := f9.mono hz22; replace f10 := f10.mono hz22; replace f1 := f1.mono hz22; replace f3 := f3.mono hz22
    replace hle0 := hle0.trans hz22
    replace hm8 := hm8.trans hz22
    replace hp13 := hp13.trans hG1_32
    refine Ops.ex (Ex.neqI rfl rfl) rfl rfl rfl ?_
    refine Ops.ex (Ex.move rfl) rfl rfl rfl ?_
    refine Ops.case 37 rfl (fun hc => ?_) (fun hc => ?_)
    · replace hf := ifF (neq_T hc) hf
      refine Ops.off rfl rfl ?_
      refine Ops.off rfl rfl ?_
      refine Ops.off rfl rfl ?_
      refine Ops.ex (Ex.pickT rfl rfl) rfl rfl rfl ?_
      refine Ops.ex (Ex.move rfl) rfl rfl rfl ?_
      refine Ops.off rfl rfl ?_
      refine Ops.off rfl rfl ?_
      refine Ops.off rfl rfl ?_
      refine Ops.off rfl rfl ?_
      refine Ops.ex (Ex.pickT rfl rfl) rfl rfl rfl ?_
      refine Ops.ex (Ex.move rfl) rfl rfl rfl ?_
      refine Ops.off rfl rfl ?_
      refine Ops.off rfl rfl ?_
      refine Ops.off rfl rfl ?_
      refine Ops.ex (Ex.pickT rfl rfl) rfl rfl rfl ?_
      refine Ops.ex (Ex.move rfl) rfl rfl rfl ?_
      refine Ops.off rfl rfl ?_
      refine Ops.off rfl rfl ?_
      refine Ops.off rfl rfl ?_
      refine Ops.off rfl rfl ?_
      refine Ops.ex (Ex.pickT rfl rfl) rfl rfl rfl ?_
      refine Ops.ex (Ex.move rfl) rfl rfl rfl ?_
      refine Ops.off rfl rfl ?_
      refine Ops.off rfl rfl ?_
      refine Ops.off rfl rfl ?_
      refine Ops.off rfl rfl ?_
      refine Ops.ex (Ex.pickT rfl rfl) rfl rfl rfl ?_
      refine Ops.nil ?_
      refine Run.condT rfl rfl ?_
      refine Run.seq ?_
      refine Run.region ?_
      refine Ops.ex (Ex.assign rfl) rfl rfl rfl ?_
      refine Ops.nil ?_
      obtain rfl := Option.some.inj hf
      exact Run.retV [vb false] rfl ⟨rfl, trivial⟩ ⟨z22, rfl, hle0, (St.forgetT (St.forget (St.forget (St.forget (St.forget hst22 4) 3) 2) 1))⟩
    · replace hf := ifT (neq_F hc) hf
      refine Ops.on rfl ?_
      refine Ops.ex (Ex.move rfl) rfl rfl rfl ?_
      refine Ops.on rfl ?_
      obtain ⟨y33, hy33, hf⟩ := bnd hf
      refine Ops.call rfl rfl Try.func19 (by kernel_rfl) (by kernel_rfl) rfl (go_files_Disk_SyncDir.walk (Γ1 := Γ1) (p0 := y22.2.1) (hst := hst22) (f1 := f24) (f2 := f25) (f3 := f26) (hf := hy33)) ?_
      rintro _ w33 ⟨z33, gm35, E35, c35, gm36, E36, c36, A37, c37, d37, rfl, hz33, f35, f36, f37, hst33⟩
      refine ⟨_, rfl, ?_⟩
      replace f9 := f9.mono hz33; replace f10 := f10.mono hz33; replace f1 := f1.mono hz33; replace f3 := f3.mono hz33; replace hA31 := hA31.mono hz33
      replace hle0 := hle0.trans hz33
      replace hm8 := hm8.trans hz33
      refine Ops.on rfl ?_
      refine Ops.ex (Ex.neqI rfl rfl) rfl rfl rfl ?_
      refine Ops.ex (Ex.pickF rfl rfl) rfl rfl rfl ?_
      refine Ops.ex (Ex.move rfl) rfl rfl rfl ?_
      refine Ops.case 42 rfl (fun hc => ?_) (fun hc => ?_)
      · replace hf := ifF (neq_T hc) hf
        refine Ops.off rfl rfl ?_
        refine Ops.off rfl rfl ?_
        refine Ops.off rfl rfl ?_
        refine Ops.off rfl rfl ?_
        refine Ops.ex (Ex.pickT rfl rfl) rfl rfl rfl ?_
        refine Ops.ex (Ex.move rfl) rfl rfl rfl ?_
        refine Ops.off rfl rfl ?_
        refine Ops.off rfl rfl ?_
        refine Ops.off rfl rfl ?_
        refine Ops.ex (Ex.pickT rfl rfl) rfl rfl rfl ?_
        refine Ops.ex (Ex.move rfl) rfl rfl rfl ?_
        refine Ops.off rfl rfl ?_
        refine Ops.off rfl rfl ?_
        refine Ops.off rfl rfl ?_
        refine Ops.off rfl rfl ?_
        refine Ops.ex (Ex.pickT rfl rfl) rfl rfl rfl ?_
        refine Ops.ex (Ex.move rfl) rfl rfl rfl ?_
        refine Ops.off rfl rfl ?_
        refine Ops.off rfl rfl ?_
        refine Ops.off rfl rfl ?_
        refine Ops.off rfl rfl ?_
        refine Ops.ex (Ex.pickT rfl rfl) rfl rfl rfl ?_
        refine Ops.nil ?_
        refine Run.condT rfl rfl ?_
        refine Run.seq ?_
        refine Run.region ?_
        refine Ops.ex (Ex.assign rfl) rfl rfl rfl ?_
        refine Ops.nil ?_
        obtain rfl := Option.some.inj hf
        exact Run.retV [vb false] rfl ⟨rfl, trivial⟩ ⟨z33, rfl, hle0, (St.forgetT (St.forget (St.forget (St.forget (St.forget hst33 4) 3) 2) 1))⟩
      · replace hf := ifT (neq_F hc) hf
        refine Ops.on rfl ?_
        refine Ops.ex (Ex.move rfl) rfl rfl rfl ?_
        refine Ops.on rfl ?_
        refine Ops.ex (Ex.move rfl) rfl rfl rfl ?_
        refine Ops.on rfl ?_
        obtain ⟨y42, hy42, hf⟩ := bnd hf
        refine Ops.call rfl rfl Try.func14 (by kernel_rfl) (by kernel_rfl) rfl (go_files_Disk_Append.walk (Γ1 := Γ1) (p0 := y33.2) (p1 := [120]) (p2 := l9) (ar1 := y22.2.2) (hst := hst33) (f1 := f35) (f2 := f36) (f3 := f37) (f9 := f9) (hA1 := hA31) (Ha1 := Ha31) (hf := hy42)) ?_
        rintro _ w42 ⟨z42, gm44, E44, c44, gm45, E45, c45, A46, c46, d46, Ha51, rfl, hz42, f44, f45, f46, hA51, hst42⟩
        replace hst42 : Ht w0 (frz z42 :: (blk g14 [.map (some gm44), .map (some gm45), .slice A46 y42.2.1.wait_.length c46, vi y42.2.1.room_, vi y42.2.1.left_, vb y42.2.1.down_, vi y42.2.1.calls_] 68) :: (ob gm44 (.map E44 c44)) :: (ob gm45 (.map E45 c45)) :: (orow 78 1 (.slice A46 y42.2.1.wait_.length c46) y42.2.1.wait_.length d46) :: (Ha51 ++ X)) _ := hst42
        refine ⟨_, rfl, ?_⟩
        replace f9 := f9.mono hz42; replace f10 := f10.mono hz42; replace f1 := f1.mono hz42; replace f3 := f3.mono hz42
        replace hle0 := hle0.trans hz42
        replace hm8 := hm8.trans hz42
        refine Ops.on rfl ?_
        refine Ops.ex (Ex.neqI rfl rfl) rfl rfl rfl ?_
        refine Ops.ex (Ex.pickF rfl rfl) rfl rfl rfl ?_
        refine Ops.ex (Ex.move rfl) rfl rfl rfl ?_
        refine Ops.case 48 rfl (fun hc => ?_) (fun hc => ?_)
        · replace hf := ifF (neq_T hc) hf
          refine Ops.off rfl rfl ?_
          refine Ops.off rfl rfl ?_
          refine Ops.off rfl rfl ?_
          refine Ops.ex (Ex.pickT rfl rfl) rfl rfl rfl ?_
          refine Ops.ex (Ex.move rfl) rfl rfl rfl ?_
          refine Ops.off rfl rfl ?_
          refine Ops.off rfl rfl ?_
          refine Ops.off rfl rfl ?_
          refine Ops.off rfl rfl ?_
          refine Ops.ex (Ex.pickT rfl rfl) rfl rfl rfl ?_
          refine Ops.ex (Ex.move rfl) rfl rfl rfl ?_
          refine Ops.off rfl rfl ?_
          refine Ops.off rfl rfl ?_
          refine Ops.off rfl rfl ?_
          refine Ops.off rfl rfl ?_
          refine Ops.ex (Ex.pickT rfl rfl) rfl rfl rfl ?_
          refine Ops.nil ?_
          refine Run.condT rfl rfl ?_
          refine Run.seq ?_
          refine Run.region ?_
          refine Ops.ex (Ex.assign rfl) rfl rfl rfl ?_
          refine Ops.nil ?_
          obtain rfl := Option.some.inj hf
          exact Run.retV [vb false] rfl ⟨rfl, trivial⟩ ⟨z42, rfl, hle0, (St.forgetT (St.forget (St.forget (St.forget (St.forget hst42 4) 3) 2) 1))⟩
        · replace hf := ifT (neq_F hc) hf
          refine Ops.on rfl ?_
          refine Ops.ex (Ex.move rfl) rfl rfl rfl ?_
          refine Ops.on rfl ?_
          obtain ⟨y52, hy52, hf⟩ := bnd hf
          refine Ops.call rfl rfl Try.func18 (by kernel_rfl) (by kernel_rfl) rfl (go_files_Disk_Sync.walk (Γ1 := Γ1) (p0 := y42.2.1) (p1 := [120]) (ar1 := y42.2.2) (hst := hst42) (f1 := f44) (f2 := f45) (f3 := f46) (hA1 := hA51) (Ha1 := Ha51) (hf := hy52)) ?_
          rintro _ w52 ⟨z52, gm54, E54, c54, gm55, E55, c55, A56, c56, d56, Ha61, rfl, hz52, f54, f55, f56, hA61, hst52⟩
          replace hst52 : Ht w0 (frz z52 :: (blk g14 [.map (some gm54), .map (some gm55), .slice A56 y52.2.1.wait_.length c56, vi y52.2.1.room_, vi y52.2.1.left_, vb y52.2.1.down_, vi y52.2.1.calls_] 68) :: (ob gm54 (.map E54 c54)) :: (ob gm55 (.map E55 c55)) :: (orow 78 1 (.slice A56 y52.2.1.wait_.length c56) y52.2.1.wait_.length d56) :: (Ha61 ++ X)) _ := hst52
          refine ⟨_, rfl, ?_⟩
          replace f9 := f9.mono hz52; replace f10 := f10.mono hz52; replace f1 := f1.mono hz52; replace f3 := f3.mono hz52
          replace hle0 := hle0.trans hz52
          replace hm8 := hm8.trans hz52
          refine Ops.on rfl ?_
          refine Ops.ex (Ex.neqI rfl rfl) rfl rfl rfl ?_
          refine Ops.ex (Ex.pickF rfl rfl) rfl rfl rfl ?_
          refine Ops.ex (Ex.move rfl) rfl rfl rfl ?_
          refine Ops.case 53 rfl (fun hc => ?_) (fun hc => ?_)
          · replace hf := ifF (neq_T hc) hf
            refine Ops.off rfl rfl ?_
            refine Ops.off rfl rfl ?_
            refine Ops.off rfl rfl ?_
            refine Ops.off rfl rfl ?_
            refine Ops.ex (Ex.pickT rfl rfl) rfl rfl rfl ?_
            refine Ops.ex (Ex.move rfl) rfl rfl rfl ?_
            refine Ops.off rfl rfl ?_
            refine Ops.off rfl rfl ?_
            refine Ops.off rfl rfl ?_
            refine Ops.off rfl rfl ?_
            refine Ops.ex (Ex.pickT rfl rfl) rfl rfl rfl ?_
            refine Ops.nil ?_
            refine Run.condT rfl rfl ?_
            refine Run.seq ?_
            refine Run.region ?_
            refine Ops.ex (Ex.assign rfl) rfl rfl rfl ?_
            refine Ops.nil ?_
            obtain rfl := Option.some.inj hf
            exact Run.retV [vb false] rfl ⟨rfl, trivial⟩ ⟨z52, rfl, hle0, (St.forgetT (St.forget (St.forget (St.forget (St.forget hst52 4) 3) 2) 1))⟩
          · replace hf := ifT (neq_F hc) hf
            refine Ops.on rfl ?_
            refine Ops.ex (Ex.move rfl) rfl rfl rfl ?_
            refine Ops.on rfl ?_
            refine Ops.ex (Ex.move rfl) rfl rfl rfl ?_
            refine Ops.on rfl ?_
            obtain ⟨y62, hy62, hf⟩ := bnd hf
            refine Ops.call rfl rfl Try.func22 (by kernel_rfl) (by kernel_rfl) rfl (go_files_Disk_Cut.walk (Γ1 := Γ1) (p0 := y52.2.1) (p1 := [120]) (p2 := (Int.tmod (p1.toNat : Int) (wr ((l9.length : Int) + 1)))) (ar1 := y52.2.2) (hst := hst52) (f1 := f54) (f2 := f55) (f3 := f56) (hA1 := hA61) (Ha1 := Ha61) (hf := hy62)) ?_
            rintro _ w62 ⟨z62, gm64, E64, c64, gm65, E65, c65, A66, c66, d66, Ha71, rfl, hz62, f64, f65, f66, hA71, hst62⟩
            replace hst62 : Ht w0 (frz z62 :: (blk g14 [.map (some gm64), .map (some gm65), .slice A66 y62.2.1.wait_.length c66, vi y62.2.1.room_, vi y62.2.1.left_, vb y62.2.1.down_, vi y62.2.1.calls_] 68) :: (ob gm64 (.map E64 c64)) :: (ob gm65 (.map E65 c65)) :: (orow 78 1 (.slice A66 y62.2.1.wait_.length c66) y62.2.1.wait_.length d66) :: (Ha71 ++ X)) _ := hst62
            refine ⟨_, rfl, ?_⟩
            replace f9 := f9.mono hz62; replace f10 := f10.mono hz62; replace f1 := f1.mono hz62; replace f3 := f3.mono hz62
            replace hle0 := hle0.trans hz62
            replace hm8 := hm8.trans hz62
            refine Ops.on rfl ?_
            refine Ops.ex (Ex.neqI rfl rfl) rfl rfl rfl ?_
            refine Ops.ex (Ex.pickF rfl rfl) rfl rfl rfl ?_
            refine Ops.ex (Ex.move rfl) rfl rfl rfl ?_
            refine Ops.case 59 rfl (fun hc => ?_) (fun hc => ?_)
            · replace hf := ifF (neq_T hc) hf
              refine Ops.off rfl rfl ?_
              refine Ops.off rfl rfl ?_
              refine Ops.off rfl rfl ?_
              refine Ops.off rfl rfl ?_
              refine Ops.ex (Ex.pickT rfl rfl) rfl rfl rfl ?_
              refine Ops.nil ?_
              refine Run.condT rfl rfl ?_
              refine Run.seq ?_
              refine Run.region ?_
              refine Ops.ex (Ex.assign rfl) rfl rfl rfl ?_
              refine Ops.nil ?_
              obtain rfl := Option.some.inj hf
              exact Run.retV [vb false] rfl ⟨rfl, trivial⟩ ⟨z62, rfl, hle0, (St.forgetT (St.forget (St.forget (St.forget (St.forget hst62 4) 3) 2) 1))⟩
            · replace hf := ifT (neq_F hc) hf
              refine Ops.on rfl ?_
              refine Ops.ex (Ex.move rfl) rfl rfl rfl ?_
              refine Ops.on rfl ?_
              refine Ops.ex (Ex.move rfl) rfl rfl rfl ?_
              refine Ops.on rfl ?_
              obtain ⟨y72, hy72, hf⟩ := bnd hf
              refine Ops.call rfl rfl Try.func14 (by kernel_rfl) (by kernel_rfl) rfl (go_files_Disk_Append.walk (Γ1 := Γ1) (p0 := y62.2.1) (p1 := [120]) (p2 := l10) (ar1 := y62.2.2) (hst := hst62) (f1 := f64) (f2 := f65) (f3 := f66) (f9 := f10) (hA1 := hA71) (Ha1 := Ha71) (hf := hy72)) ?_
              rintro _ w72 ⟨z72, gm74, E74, c74, gm75, E75, c75, A76, c76, d76, Ha81, rfl, hz72, f74, f75, f76, hA81, hst72⟩
              replace hst72 : Ht w0 (frz z72 :: (blk g14 [.map (some gm74), .map (some gm75), .slice A76 y72.2.1.wait_.length c76, vi y72.2.1.room_, vi y72.2.1.left_, vb y72.2.1.down_, vi y72.2.1.calls_] 68) :: (ob gm74 (.map E74 c74)) :: (ob gm75 (.map E75 c75)) :: (orow 78 1 (.slice A76 y72.2.1.wait_.length c76) y72.2.1.wait_.length d76) :: (Ha81 ++ X)) _ := hst72
              refine ⟨_, rfl, ?_⟩
              replace f9 := f9.mono hz72; replace f10 := f10.mono hz72; replace f1 := f1.mono hz72; replace f3 := f3.mono hz72
              replace hle0 := hle0.trans hz72
              replace hm8 := hm8.trans hz72
              refine Ops.on rfl ?_
              refine Ops.ex (Ex.neqI rfl rfl) rfl rfl rfl ?_
              refine Ops.ex (Ex.pickF rfl rfl) rfl rfl rfl ?_
              refine Ops.nil ?_
              refine Run.cond rfl (fun hc => ?_) (fun hc => ?_)
              · replace hf := ifF (neq_T hc) hf
                refine Run.seq ?_
                refine Run.region ?_
                refine Ops.ex (Ex.assign rfl) rfl rfl rfl ?_
                refine Ops.nil ?_
                obtain rfl := Option.some.inj hf
                exact Run.retV [vb false] rfl ⟨rfl, trivial⟩ ⟨z72, rfl, hle0, (St.forgetT (St.forget (St.forget (St.forget (St.forget hst72 4) 3) 2) 1))⟩
              · replace hf := ifT (neq_F hc) hf
                refine Run.skip ?_
                refine Run.seq ?_
                refine Run.region ?_
                refine Ops.ex (Ex.move rfl) rfl rfl rfl ?_
                obtain ⟨y82, hy82, hf⟩ := bnd hf
                refine Ops.call rfl rfl Try.func16 (by kernel_rfl) (by kernel_rfl) rfl (go_files_Disk_Read.walk (Γ1 := Γ1) (p0 := y72.2.1) (p1 := [120]) (ar1 := y72.2.2) (hst := hst72) (f1 := f74) (f2 := f75) (f3 := f76) (hA1 := hA81) (Ha1 := Ha81) (hf := hy82)) ?_
                rintro _ w82 ⟨z82, A83, c83, d83, Ha85, rfl, hz82, f83, hA85, hst82⟩
                replace hst82 : Ht w0 (frz z82 :: (blk g14 [.map (some gm74), .map (some gm75), .slice A76 y72.2.1.wait_.length c76, vi y72.2.1.room_, vi y72.2.1.left_, vb y72.2.1.down_, vi y72.2.1.calls_] 68) :: (ob gm74 (.map E74 c74)) :: (ob gm75 (.map E75 c75)) :: (orow 78 1 (.slice A76 y72.2.1.wait_.length c76) y72.2.1.wait_.length d76) :: (orow 5 1 (.slice A83 y82.1.length c83) y82.1.length d83) :: (Ha85 ++ X)) _ := hst82
                refine ⟨_, rfl, ?_⟩
                replace f9 := f9.mono hz82; replace f10 := f10.mono hz82; replace f1 := f1.mono hz82; replace f3 := f3.mono hz82; replace f74 := f74.mono hz82; replace f75 := f75.mono hz82; replace f76 := f76.mono hz82
                replace hle0 := hle0.trans hz82
                replace hm8 := hm8.trans hz82
                refine Ops.ex (Ex.move rfl) rfl rfl rfl ?_
                refine Ops.ex (Ex.extract rfl rfl) rfl rfl rfl ?_
                refine Ops.ex (Ex.extract rfl rfl) rfl rfl rfl ?_
                refine Ops.ex (Ex.assign rfl) rfl rfl rfl ?_
                refine Ops.ex (Ex.assign rfl) rfl rfl rfl ?_
                refine Ops.nil ?_
                refine Run.seq ?_
                refine Run.seq ?_
                have hm97 := Le.refl z82
                have hp98 := List.prefix_rfl (l := Γ1)
                apply Run.jn (fun e' w' => ∃ (b101 : Bool) (Ha100 : List Res) (z99 : Zp), go_law04_FilesCut.j1 p1 p3 l9 l10 y72 y82 b101 = some r ∧ e' = [(0, .slice A9 l9.length c9), (2, .slice A10 l10.length c10), (3, vu8 p3), (9, vi (Int.tmod (p1.toNat : Int) (wr ((l9.length : Int) + 1)))), (10, .pointer (some ⟨g14, 0, none⟩)), (83, vb b101)] ∧ Le z82 z99 ∧ Le z0 z99 ∧ Le z5 z99 ∧ Ar1 z99 Γ1 y82.2.2 Ha100 ∧ Ht w0 (frz z99 :: (blk g14 [.map (some gm74), .map (some gm75), .slice A76 y72.2.1.wait_.length c76, vi y72.2.1.room_, vi y72.2.1.left_, vb y72.2.1.down_, vi y72.2.1.calls_] 68) :: (ob gm74 (.map E74 c74)) :: (ob gm75 (.map E75 c75)) :: (orow 78 1 (.slice A76 y72.2.1.wait_.length c76) y72.2.1.wait_.length d76) :: (Ha100 ++ X)) w')
                · intro hj86
                  refine Run.drawH [] (by kernel_rfl) hst82 (fun w102 hst102 => ?_)
                  refine Any.takeE 0 rfl rfl rfl rfl (by kernel_rfl) (fun _ _ _ _ _ h => h) ((Ex.move rfl).s) ?_
                  refine Any.takeE 1 rfl rfl rfl rfl (by kernel_rfl) (fun _ _ _ _ _ h => h) ((Ex.neqI rfl rfl).s) ?_
                  refine Any.takeE 2 rfl rfl rfl rfl (by kernel_rfl) (fun _ _ _ _ _ h => h) ((Ex.move rfl).s) ?_
                  refine Any.case 72 rfl (fun hc => ?_) (fun hc => ?_)
                  · replace hf := ifF (neq_T hc) hf
                    refine Any.pass 3 rfl rfl rfl rfl (by kernel_rfl) (fun _ _ _ _ _ h => h) ?_
                    refine Any.pass 4 rfl rfl rfl rfl (by kernel_rfl) (fun _ _ _ _ _ h => h) ?_
                    refine Any.pass 5 rfl rfl rfl rfl (by kernel_rfl) (fun _ _ _ _ _ h => h) ?_
                    refine Any.pass 6 rfl rfl rfl rfl (by kernel_rfl) (fun _ _ _ _ _ h => h) ?_
                    refine Any.pass 7 rfl rfl rfl rfl (by kernel_rfl) (fun _ _ _ _ _ h => h) ?_
                    refine Any.pass 8 rfl rfl rfl rfl (by kernel_rfl) (fun _ _ _ _ _ h => h) ?_
                    refine Any.pass 9 rfl rfl rfl rfl (by kernel_rfl) (fun _ _ _ _ _ h => h) ?_
                    refine Any.pass 10 rfl rfl rfl rfl (by kernel_rfl) (fun _ _ _ _ _ h => h) ?_
                    refine Any.pass 11 rfl rfl rfl rfl (by kernel_rfl) (fun _ _ _ _ _ h => h) ?_
                    refine Any.pass 12 rfl rfl rfl rfl (by kernel_rfl) (fun _ _ _ _ _ h => h) ?_
                    refine Any.takeE 13 rfl rfl rfl rfl (by kernel_rfl) (fun _ _ _ _ _ h => h) ((Ex.pickT rfl rfl).s) ?_
                    refine Any.done (by kernel_rfl) ?_
                    exact Run.sub (by exact subB_spec ⟨rfl, rfl, rfl, rfl, rfl, rfl, trivial⟩) (hj86 _ _ ⟨true, Ha85, z82, hf, rfl, hm97, hle0, hm8, hA85, (St.forget hst102 5)⟩)
                  · replace hf := ifT (neq_F hc) hf
                    refine Any.takeE 3 rfl rfl rfl rfl (by kernel_rfl) (fun _ _ _ _ _ h => h) (ExS.g ((Ex.move rfl).s)) ?_
                    refine Any.takeE 5 rfl rfl rfl rfl (by kernel_rfl) (fun _ _ _ _ _ h => h) (ExS.g ((Ex.move rfl).s)) ?_
                    refine Any.takeE 6 rfl rfl rfl rfl (by kernel_rfl) (fun _ _ _ _ _ h => h) (ExS.g ((Ex.move rfl).s)) ?_
                    obtain ⟨l103, hy103, hf⟩ := bnd hf
                    obtain ⟨A103, c103, hA103, hB103, f103⟩ := SlH.sub f9.toH hy103
                    replace f103 := f103.toS
                    refine Any.takeE 7 rfl rfl rfl rfl (by kernel_rfl) (fun _ _ _ _ _ h => h) (ExS.g ((Ex.subA hA103 hB103 hy103 rfl rfl Try.underlying22 sz5 rfl rfl).s)) ?_
                    refine Any.takeE 9 rfl rfl rfl rfl (by kernel_rfl) (fun _ _ _ _ _ h => h) (ExS.g ((Ex.move rfl).s)) ?_
                    refine Any.all [4, 8, 10] (by kernel_rfl) rfl (fun i hi => ?_)
                    simp only [List.mem_cons, List.not_mem_nil, or_false] at hi
                    rcases hi with rfl | rfl | rfl
                    · skip
                      refine ⟨_, rfl, rfl, One.g <| One.of_ops rfl ?_⟩
                      refine Ops.str8 (own_slh f83 rfl (hst102.get (i := 5) rfl)) rfl Try.underlying22 Try.underlying5 Try.underlying9 rfl (Ops.stop ?_)
                      refine ⟨trivial, ?_⟩
                      refine Any.all [8, 10] (by kernel_rfl) rfl (fun i hi => ?_)
                      simp only [List.mem_cons, List.not_mem_nil, or_false] at hi
                      rcases hi with rfl | rfl
                      · skip
                        refine ⟨_, rfl, rfl, One.g <| One.of_ops rfl ?_⟩
                        refine Ops.str8 (f103.at_ hst102) rfl Try.underlying22 Try.underlying5 Try.underlying9 rfl (Ops.stop ?_)
                        refine ⟨trivial, ?_⟩
                        refine Any.one 10 (by kernel_rfl) rfl rfl (One.g <| One.of_ops rfl ?_)
                        refine Ops.str8 (f10.at_ hst102) rfl Try.underlying22 Try.underlying5 Try.underlying9 rfl (Ops.stop ?_)
                        refine ⟨trivial, ?_⟩
                        obtain ⟨s104, hy104, hf⟩ := bnd hf
                        refine Any.takeE 11 rfl rfl rfl rfl (by kernel_rfl) (fun _ _ _ _ _ h => h) (ExS.g ((Ex.addT hy104 rfl rfl).s)) ?_
                        refine Any.takeE 12 rfl rfl rfl rfl (by kernel_rfl) (fun _ _ _ _ _ h => h) (ExS.g ((Ex.neqT rfl rfl).s)) ?_
                        refine Any.takeE 13 rfl rfl rfl rfl (by kernel_rfl) (fun _ _ _ _ _ h => h) ((Ex.pickF rfl rfl).s) ?_
                        refine Any.done (by kernel_rfl) ?_
                        exact Run.sub (by exact subB_spec ⟨rfl, rfl, rfl, rfl, rfl, rfl, trivial⟩) (hj86 _ _ ⟨!(decide (y82.1 = s104)), Ha85, z82, hf, rfl, hm97, hle0, hm8, hA85, (St.forget hst102 5)⟩)
                      · skip
                        refine ⟨_, rfl, rfl, One.g <| One.of_ops rfl ?_⟩
                        refine Ops.str8 (f10.at_ hst102) rfl Try.underlying22 Try.underlying5 Try.underlying9 rfl (Ops.stop ?_)
                        refine ⟨trivial, ?_⟩
                        refine Any.one 8 (by kernel_rfl) rfl rfl (One.g <| One.of_ops rfl ?_)
                        refine Ops.str8 (f103.at_ hst102) rfl Try.underlying22 Try.underlying5 Try.underlying9 rfl (Ops.stop ?_)
                        refine ⟨trivial, ?_⟩
                        obtain ⟨s105, hy105, hf⟩ := bnd hf
                        refine Any.takeE 11 rfl rfl rfl rfl (by kernel_rfl) (fun _ _ _ _ _ h => h) (ExS.g ((Ex.addT hy105 rfl rfl).s)) ?_
                        refine Any.takeE 12 rfl rfl rfl rfl (by kernel_rfl) (fun _ _ _ _ _ h => h) (ExS.g ((Ex.neqT rfl rfl).s)) ?_
                        refine Any.takeE 13 rfl rfl rfl rfl (by kernel_rfl) (fun _ _ _ _ _ h => h) ((Ex.pickF rfl rfl).s) ?_
                        refine Any.done (by kernel_rfl) ?_
                        exact Run.sub (by exact subB_spec ⟨rfl, rfl, rfl, rfl, rfl, rfl, trivial⟩) (hj86 _ _ ⟨!(decide (y82.1 = s105)), Ha85, z82, hf, rfl, hm97, hle0, hm8, hA85, (St.forget hst102 5)⟩)
                    · skip
                      refine ⟨_, rfl, rfl, One.g <| One.of_ops rfl ?_⟩
                      refine Ops.str8 (f103.at_ hst102) rfl Try.underlying22 Try.underlying5 Try.underlying9 rfl (Ops.stop ?_)
                      refine ⟨trivial, ?_⟩
                      refine Any.all [4, 10] (by kernel_rfl) rfl (fun i hi => ?_)
                      simp only [List.mem_cons, List.not_mem_nil, or_false] at hi
                      rcases hi with rfl | rfl
                      · skip
                        refine ⟨_, rfl, rfl, One.g <| One.of_ops rfl ?_⟩
                        refine Ops.str8 (own_slh f83 rfl (hst102.get (i := 5) rfl)) rfl Try.underlying22 Try.underlying5 Try.underlying9 rfl (Ops.stop ?_)
                        refine ⟨trivial, ?_⟩
                        refine Any.one 10 (by kernel_rfl) rfl rfl (One.g <| One.of_ops rfl ?_)
                        refine Ops.str8 (f10.at_ hst102) rfl Try.underlying22 Try.underlying5 Try.underlying9 rfl (Ops.stop ?_)
                        refine ⟨trivial, ?_⟩
                        obtain ⟨s106, hy106, hf⟩ := bnd hf
                        refine Any.takeE 11 rfl rfl rfl rfl (by kernel_rfl) (fun _ _ _ _ _ h => h) (ExS.g ((Ex.addT hy106 rfl rfl).s)) ?_
                        refine Any.takeE 12 rfl rfl rfl rfl (by kernel_rfl) (fun _ _ _ _ _ h => h) (ExS.g ((Ex.neqT rfl rfl).s)) ?_
                        refine Any.takeE 13 rfl rfl rfl rfl (by kernel_rfl) (fun _ _ _ _ _ h => h) ((Ex.pickF rfl rfl).s) ?_
                        refine Any.done (by kernel_rfl) ?_
                        exact Run.sub (by exact subB_spec ⟨rfl, rfl, rfl, rfl, rfl, rfl, trivial⟩) (hj86 _ _ ⟨!(decide (y82.1 = s106)), Ha85, z82, hf, rfl, hm97, hle0, hm8, hA85, (St.forget hst102 5)⟩)
                      · skip
                        refine ⟨_, rfl, rfl, One.g <| One.of_ops rfl ?_⟩
                        refine Ops.str8 (f10.at_ hst102) rfl Try.underlying22 Try.underlying5 Try.underlying9 rfl (Ops.stop ?_)
                        refine ⟨trivial, ?_⟩
                        obtain ⟨s107, hy107, hf⟩ := bnd hf
                        refine Any.takeE 11 rfl rfl rfl rfl (by kernel_rfl) (fun _ _ _ _ _ h => h) (ExS.g ((Ex.addT hy107 rfl rfl).s)) ?_
                        refine Any.one 4 (by kernel_rfl) rfl rfl (One.g <| One.of_ops rfl ?_)
                        refine Ops.str8 (own_slh f83 rfl (hst102.get (i := 5) rfl)) rfl Try.underlying22 Try.underlying5 Try.underlying9 rfl (Ops.stop ?_)
                        refine ⟨trivial, ?_⟩
                        refine Any.takeE 12 rfl rfl rfl rfl (by kernel_rfl) (fun _ _ _ _ _ h => h) (ExS.g ((Ex.neqT rfl rfl).s)) ?_
                        refine Any.takeE 13 rfl rfl rfl rfl (by kernel_rfl) (fun _ _ _ _ _ h => h) ((Ex.pickF rfl rfl).s) ?_
                        refine Any.done (by kernel_rfl) ?_
                        exact Run.sub (by exact subB_spec ⟨rfl, rfl, rfl, rfl, rfl, rfl, trivial⟩) (hj86 _ _ ⟨!(decide (y82.1 = s107)), Ha85, z82, hf, rfl, hm97, hle0, hm8, hA85, (St.forget hst102 5)⟩)
                    · skip
                      refine ⟨_, rfl, rfl, One.g <| One.of_ops rfl ?_⟩
                      refine Ops.str8 (f10.at_ hst102) rfl Try.underlying22 Try.underlying5 Try.underlying9 rfl (Ops.stop ?_)
                      refine ⟨trivial, ?_⟩
                      refine Any.all [4, 8] (by kernel_rfl) rfl (fun i hi => ?_)
                      simp only [List.mem_cons, List.not_mem_nil, or_false] at hi
                      rcases hi with rfl | rfl
                      · skip
                        refine ⟨_, rfl, rfl, One.g <| One.of_ops rfl ?_⟩
                        refine Ops.str8 (own_slh f83 rfl (hst102.get (i := 5) rfl)) rfl Try.underlying22 Try.underlying5 Try.underlying9 rfl (Ops.stop ?_)
                        refine ⟨trivial, ?_⟩
                        refine Any.one 8 (by kernel_rfl) rfl rfl (One.g <| One.of_ops rfl ?_)
                        refine Ops.str8 (f103.at_ hst102) rfl Try.underlying22 Try.underlying5 Try.underlying9 rfl (Ops.stop ?_)
                        refine ⟨trivial, ?_⟩
                        obtain ⟨s108, hy108, hf⟩ := bnd hf
                        refine Any.takeE 11 rfl rfl rfl rfl (by kernel_rfl) (fun _ _ _ _ _ h => h) (ExS.g ((Ex.addT hy108 rfl rfl).s)) ?_
                        refine Any.takeE 12 rfl rfl rfl rfl (by kernel_rfl) (fun _ _ _ _ _ h => h) (ExS.g ((Ex.neqT rfl rfl).s)) ?_
                        refine Any.takeE 13 rfl rfl rfl rfl (by kernel_rfl) (fun _ _ _ _ _ h => h) ((Ex.pickF rfl rfl).s) ?_
                        refine Any.done (by kernel_rfl) ?_
                        exact Run.sub (by exact subB_spec ⟨rfl, rfl, rfl, rfl, rfl, rfl, trivial⟩) (hj86 _ _ ⟨!(decide (y82.1 = s108)), Ha85, z82, hf, rfl, hm97, hle0, hm8, hA85, (St.forget hst102 5)⟩)
                      · skip
                        refine ⟨_, rfl, rfl, One.g <| One.of_ops rfl ?_⟩
                        refine Ops.str8 (f103.at_ hst102) rfl Try.underlying22 Try.underlying5 Try.underlying9 rfl (Ops.stop ?_)
                        refine ⟨trivial, ?_⟩
                        obtain ⟨s109, hy109, hf⟩ := bnd hf
                        refine Any.takeE 11 rfl rfl rfl rfl (by kernel_rfl) (fun _ _ _ _ _ h => h) (ExS.g ((Ex.addT hy109 rfl rfl).s)) ?_
                        refine Any.one 4 (by kernel_rfl) rfl rfl (One.g <| One.of_ops rfl ?_)
                        refine Ops.str8 (own_slh f83 rfl (hst102.get (i := 5) rfl)) rfl Try.underlying22 Try.underlying5 Try.underlying9 rfl (Ops.stop ?_)
                        refine ⟨trivial, ?_⟩
                        refine Any.takeE 12 rfl rfl rfl rfl (by kernel_rfl) (fun _ _ _ _ _ h => h) (ExS.g ((Ex.neqT rfl rfl).s)) ?_
                        refine Any.takeE 13 rfl rfl rfl rfl (by kernel_rfl) (fun _ _ _ _ _ h => h) ((Ex.pickF rfl rfl).s) ?_
                        refine Any.done (by kernel_rfl) ?_
                        exact Run.sub (by exact subB_spec ⟨rfl, rfl, rfl, rfl, rfl, rfl, trivial⟩) (hj86 _ _ ⟨!(decide (y82.1 = s109)), Ha85, z82, hf, rfl, hm97, hle0, hm8, hA85, (St.forget hst102 5)⟩)
                · rintro e' w110 ⟨b101, Ha100, z99, hf, rfl, hz110, hy110_0, hy110_1, hA100, hst110⟩
                  replace f9 := f9.mono hz110; replace f10 := f10.mono hz110; replace f74 := f74.mono hz110; replace f75 := f75.mono hz110; replace f76 := f76.mono hz110
                  unfold go_law04_FilesCut.j1 at hf
                  refine Run.cond rfl (fun hc => ?_) (fun hc => ?_)
                  · replace hf := ifTb hc hf
                    refine Run.seq ?_
                    refine Run.region ?_
                    refine Ops.ex (Ex.assign rfl) rfl rfl rfl ?_
                    refine Ops.nil ?_
                    obtain rfl := Option.some.inj hf
                    exact Run.retV [vb false] rfl ⟨rfl, trivial⟩ ⟨z99, rfl, hy110_0, (St.forgetT (St.forget (St.forget (St.forget (St.forget hst110 4) 3) 2) 1))⟩
                  · replace hf := ifFb hc hf
                    refine Run.skip ?_
                    refine Run.seq ?_
                    refine Run.region ?_
                    refine Ops.ex (Ex.move rfl) rfl rfl rfl ?_
                    refine Ops.ex (Ex.move rfl) rfl rfl rfl ?_
                    refine Ops.ex (Ex.cu8 rfl Try.underlying5 Try.underlying3) rfl rfl rfl ?_
                    obtain ⟨y111, hy111, hf⟩ := bnd hf
                    refine Ops.call rfl rfl Try.func20 (by kernel_rfl) (by kernel_rfl) rfl (go_files_Disk_Restart.walk (Γ1 := Γ1) (p0 := y72.2.1) (p1 := 0) (p2 := (p3.toNat : Int)) (ar1 := y82.2.2) (hst := hst110) (f1 := f74) (f2 := f75) (f3 := f76) (hA1 := hA100) (Ha1 := Ha100) (hf := hy111)) ?_
                    rintro _ w111 ⟨z111, gm112, E112, c112, gm113, E113, c113, A114, c114, d114, Ha119, rfl, hz111, f112, f113, f114, hA119, hst111⟩
                    replace hst111 : Ht w0 (frz z111 :: (blk g14 [.map (some gm112), .map (some gm113), .slice A114 y111.1.wait_.length c114, vi y111.1.room_, vi y111.1.left_, vb y111.1.down_, vi y111.1.calls_] 68) :: (ob gm112 (.map E112 c112)) :: (ob gm113 (.map E113 c113)) :: (orow 78 1 (.slice A114 y111.1.wait_.length c114) y111.1.wait_.length d114) :: (Ha119 ++ X)) _ := hst111
                    refine ⟨_, rfl, ?_⟩
                    replace f9 := f9.mono hz111; replace f10 := f10.mono hz111
                    replace hy110_0 := hy110_0.trans hz111
                    replace hy110_1 := hy110_1.trans hz111
                    replace hz110 := hz110.trans hz111
                    refine Ops.nil ?_
                    refine Run.seq ?_
                    refine Run.region ?_
                    refine Ops.ex (Ex.move rfl) rfl rfl rfl ?_
                    obtain ⟨y120, hy120, hf⟩ := bnd hf
                    refine Ops.call rfl rfl Try.func16 (by kernel_rfl) (by kernel_rfl) rfl (go_files_Disk_Read.walk (Γ1 := Γ1) (p0 := y111.1) (p1 := [120]) (ar1 := y111.2) (hst := hst111) (f1 := f112) (f2 := f113) (f3 := f114) (hA1 := hA119) (Ha1 := Ha119) (hf := hy120)) ?_
                    rintro _ w120 ⟨z120, A121, c121, d121, Ha123, rfl, hz120, f121, hA123, hst120⟩
                    replace hst120 : Ht w0 (frz z120 :: (blk g14 [.map (some gm112), .map (some gm113), .slice A114 y111.1.wait_.length c114, vi y111.1.room_, vi y111.1.left_, vb y111.1.down_, vi y111.1.calls_] 68) :: (ob gm112 (.map E112 c112)) :: (ob gm113 (.map E113 c113)) :: (orow 78 1 (.slice A114 y111.1.wait_.length c114) y111.1.wait_.length d114) :: (orow 5 1 (.slice A121 y120.1.length c121) y120.1.length d121) :: (Ha123 ++ X)) _ := hst120
                    refine ⟨_, rfl, ?_⟩
                    replace f9 := f9.mono hz120; replace f10 := f10.mono hz120; replace f112 := f112.mono hz120; replace f113 := f113.mono hz120; replace f114 := f114.mono hz120
                    replace hy110_0 := hy110_0.trans hz120
                    replace hy110_1 := hy110_1.trans hz120
                    replace hz110 := hz110.trans hz120
                    refine Ops.ex (Ex.move rfl) rfl rfl rfl ?_
                    refine Ops.ex (Ex.extract rfl rfl) rfl rfl rfl ?_
                    refine Ops.ex (Ex.extract rfl rfl) rfl rfl rfl ?_
                    refine Ops.ex (Ex.assign rfl) rfl rfl rfl ?_
                    refine Ops.ex (Ex.assign rfl) rfl rfl rfl ?_
                    refine Ops.nil ?_
                    refine Run.seq ?_
                    have hm135 := Le.refl z120
                    apply Run.jn (fun e' w' => ∃ (b138 : Bool) (Ha137 : List Res) (z136 : Zp), go_law04_FilesCut.j2 b138 = some r ∧ e' = [(8, vb b138)] ∧ Le z120 z136 ∧ Le z0 z136 ∧ Le z5 z136 ∧ Le z82 z136 ∧ Ar1 z136 Γ1 y120.2.2 Ha137 ∧ Ht w0 (frz z136 :: (Ha137 ++ X)) w')
                    · intro hj124
                      refine Run.drawH [] (by kernel_rfl) hst120 (fun w139 hst139 => ?_)
                      refine Any.takeE 0 rfl rfl rfl rfl (by kernel_rfl) (fun _ _ _ _ _ h => h) ((Ex.move rfl).s) ?_
                      refine Any.takeE 1 rfl rfl rfl rfl (by kernel_rfl) (fun _ _ _ _ _ h => h) ((Ex.eqlI rfl rfl).s) ?_
                      refine Any.takeE 2 rfl rfl rfl rfl (by kernel_rfl) (fun _ _ _ _ _ h => h) ((Ex.move rfl).s) ?_
                      refine Any.case 95 rfl (fun hc => ?_) (fun hc => ?_)
                      · replace hf := ifT (dec_T hc) hf
                        refine Any.takeE 3 rfl rfl rfl rfl (by kernel_rfl) (fun _ _ _ _ _ h => h) (ExS.g ((Ex.move rfl).s)) ?_
                        refine Any.takeE 5 rfl rfl rfl rfl (by kernel_rfl) (fun _ _ _ _ _ h => h) (ExS.g ((Ex.move rfl).s)) ?_
                        refine Any.takeE 6 rfl rfl rfl rfl (by kernel_rfl) (fun _ _ _ _ _ h => h) (ExS.g ((Ex.move rfl).s)) ?_
                        obtain ⟨l140, hy140, hf⟩ := bnd hf
                        obtain ⟨A140, c140, hA140, hB140, f140⟩ := SlH.sub f9.toH hy140
                        replace f140 := f140.toS
                        refine Any.takeE 7 rfl rfl rfl rfl (by kernel_rfl) (fun _ _ _ _ _ h => h) (ExS.g ((Ex.subA hA140 hB140 hy140 rfl rfl Try.underlying22 sz5 rfl rfl).s)) ?_
                        refine Any.takeE 9 rfl rfl rfl rfl (by kernel_rfl) (fun _ _ _ _ _ h => h) (ExS.g ((Ex.move rfl).s)) ?_
                        refine Any.takeE 10 rfl rfl rfl rfl (by kernel_rfl) (fun _ _ _ _ _ h => h) (ExS.g ((Ex.move rfl).s)) ?_
                        refine Any.takeE 11 rfl rfl rfl rfl (by kernel_rfl) (fun _ _ _ _ _ h => h) (ExS.g ((Ex.len' rfl rfl rfl Try.underlying22).s)) ?_
                        refine Any.takeE 12 rfl rfl rfl rfl (by kernel_rfl) (fun _ _ _ _ _ h => h) (ExS.g ((Ex.move rfl).s)) ?_
                        refine Any.takeE 13 rfl rfl rfl rfl (by kernel_rfl) (fun _ _ _ _ _ h => h) (ExS.g ((Ex.cu8 rfl Try.underlying5 Try.underlying3).s)) ?_
                        refine Any.takeE 14 rfl rfl rfl rfl (by kernel_rfl) (fun _ _ _ _ _ h => h) (ExS.g ((Ex.min2 rfl rfl rfl).s)) ?_
                        obtain ⟨l141, hy141, hf⟩ := bnd hf
                        obtain ⟨A141, c141, hA141, hB141, f141⟩ := SlH.sub f10.toH hy141
                        replace f141 := f141.toS
                        refine Any.takeE 15 rfl rfl rfl rfl (by kernel_rfl) (fun _ _ _ _ _ h => h) (ExS.g ((Ex.subA hA141 hB141 hy141 rfl rfl Try.underlying22 sz5 rfl rfl).s)) ?_
                        refine Any.all [4, 8, 16] (by kernel_rfl) rfl (fun i hi => ?_)
                        simp only [List.mem_cons, List.not_mem_nil, or_false] at hi
                        rcases hi with rfl | rfl | rfl
                        · skip
                          refine ⟨_, rfl, rfl, One.g <| One.of_ops rfl ?_⟩
                          refine Ops.str8 (own_slh f121 rfl (hst139.get (i := 5) rfl)) rfl Try.underlying22 Try.underlying5 Try.underlying9 rfl (Ops.stop ?_)
                          refine ⟨trivial, ?_⟩
                          refine Any.all [8, 16] (by kernel_rfl) rfl (fun i hi => ?_)
                          simp only [List.mem_cons, List.not_mem_nil, or_false] at hi
                          rcases hi with rfl | rfl
                          · skip
                            refine ⟨_, rfl, rfl, One.g <| One.of_ops rfl ?_⟩
                            refine Ops.str8 (f140.at_ hst139) rfl Try.underlying22 Try.underlying5 Try.underlying9 rfl (Ops.stop ?_)
                            refine ⟨trivial, ?_⟩
                            refine Any.one 16 (by kernel_rfl) rfl rfl (One.g <| One.of_ops rfl ?_)
                            refine Ops.str8 (f141.at_ hst139) rfl Try.underlying22 Try.underlying5 Try.underlying9 rfl (Ops.stop ?_)
                            refine ⟨trivial, ?_⟩
                            obtain ⟨s142, hy142, hf⟩ := bnd hf
                            refine Any.takeE 17 rfl rfl rfl rfl (by kernel_rfl) (fun _ _ _ _ _ h => h) (ExS.g ((Ex.addT hy142 rfl rfl).s)) ?_
                            refine Any.takeE 18 rfl rfl rfl rfl (by kernel_rfl) (fun _ _ _ _ _ h => h) (ExS.g ((Ex.eqlT rfl rfl).s)) ?_
                            refine Any.takeE 19 rfl rfl rfl rfl (by kernel_rfl) (fun _ _ _ _ _ h => h) ((Ex.pickT rfl rfl).s) ?_
                            refine Any.takeE 20 rfl rfl rfl rfl (by kernel_rfl) (fun _ _ _ _ _ h => h) ((Ex.assign rfl).s) ?_
                            refine Any.done (by kernel_rfl) ?_
                            exact Run.sub (by exact subB_spec ⟨rfl, trivial⟩) (hj124 _ _ ⟨decide (y120.1 = s142), Ha123, z120, hf, rfl, hm135, hy110_0, hy110_1, hz110, hA123, (St.forget (St.forget (St.forget (St.forget (St.forget hst139 5) 4) 3) 2) 1)⟩)
                          · skip
                            refine ⟨_, rfl, rfl, One.g <| One.of_ops rfl ?_⟩
                            refine Ops.str8 (f141.at_ hst139) rfl Try.underlying22 Try.underlying5 Try.underlying9 rfl (Ops.stop ?_)
                            refine ⟨trivial, ?_⟩
                            refine Any.one 8 (by kernel_rfl) rfl rfl (One.g <| One.of_ops rfl ?_)
                            refine Ops.str8 (f140.at_ hst139) rfl Try.underlying22 Try.underlying5 Try.underlying9 rfl (Ops.stop ?_)
                            refine ⟨trivial, ?_⟩
                            obtain ⟨s143, hy143, hf⟩ := bnd hf
                            refine Any.takeE 17 rfl rfl rfl rfl (by kernel_rfl) (fun _ _ _ _ _ h => h) (ExS.g ((Ex.addT hy143 rfl rfl).s)) ?_
                            refine Any.takeE 18 rfl rfl rfl rfl (by kernel_rfl) (fun _ _ _ _ _ h => h) (ExS.g ((Ex.eqlT rfl rfl).s)) ?_
                            refine Any.takeE 19 rfl rfl rfl rfl (by kernel_rfl) (fun _ _ _ _ _ h => h) ((Ex.pickT rfl rfl).s) ?_
                            refine Any.takeE 20 rfl rfl rfl rfl (by kernel_rfl) (fun _ _ _ _ _ h => h) ((Ex.assign rfl).s) ?_
                            refine Any.done (by kernel_rfl) ?_
                            exact Run.sub (by exact subB_spec ⟨rfl, trivial⟩) (hj124 _ _ ⟨decide (y120.1 = s143), Ha123, z120, hf, rfl, hm135, hy110_0, hy110_1, hz110, hA123, (St.forget (St.forget (St.forget (St.forget (St.forget hst139 5) 4) 3) 2) 1)⟩)
                        · skip
                          refine ⟨_, rfl, rfl, One.g <| One.of_ops rfl ?_⟩
                          refine Ops.str8 (f140.at_ hst139) rfl Try.underlying22 Try.underlying5 Try.underlying9 rfl (Ops.stop ?_)
                          refine ⟨trivial, ?_⟩
                          refine Any.all [4, 16] (by kernel_rfl) rfl (fun i hi => ?_)
                          simp only [List.mem_cons, List.not_mem_nil, or_false] at hi
                          rcases hi with rfl | rfl
                          · skip
                            refine ⟨_, rfl, rfl, One.g <| One.of_ops rfl ?_⟩
                            refine Ops.str8 (own_slh f121 rfl (hst139.get (i := 5) rfl)) rfl Try.underlying22 Try.underlying5 Try.underlying9 rfl (Ops.stop ?_)
                            refine ⟨trivial, ?_⟩
                            refine Any.one 16 (by kernel_rfl) rfl rfl (One.g <| One.of_ops rfl ?_)
                            refine Ops.str8 (f141.at_ hst139) rfl Try.underlying22 Try.underlying5 Try.underlying9 rfl (Ops.stop ?_)
                            refine ⟨trivial, ?_⟩
                            obtain ⟨s144, hy144, hf⟩ := bnd hf
                            refine Any.takeE 17 rfl rfl rfl rfl (by kernel_rfl) (fun _ _ _ _ _ h => h) (ExS.g ((Ex.addT hy144 rfl rfl).s)) ?_
                            refine Any.takeE 18 rfl rfl rfl rfl (by kernel_rfl) (fun _ _ _ _ _ h => h) (ExS.g ((Ex.eqlT rfl rfl).s)) ?_
                            refine Any.takeE 19 rfl rfl rfl rfl (by kernel_rfl) (fun _ _ _ _ _ h => h) ((Ex.pickT rfl rfl).s) ?_
                            refine Any.takeE 20 rfl rfl rfl rfl (by kernel_rfl) (fun _ _ _ _ _ h => h) ((Ex.assign rfl).s) ?_
                            refine Any.done (by kernel_rfl) ?_
                            exact Run.sub (by exact subB_spec ⟨rfl, trivial⟩) (hj124 _ _ ⟨decide (y120.1 = s144), Ha123, z120, hf, rfl, hm135, hy110_0, hy110_1, hz110, hA123, (St.forget (St.forget (St.forget (St.forget (St.forget hst139 5) 4) 3) 2) 1)⟩)
                          · skip
                            refine ⟨_, rfl, rfl, One.g <| One.of_ops rfl ?_⟩
                            refine Ops.str8 (f141.at_ hst139) rfl Try.underlying22 Try.underlying5 Try.underlying9 rfl (Ops.stop ?_)
                            refine ⟨trivial, ?_⟩
                            obtain ⟨s145, hy145, hf⟩ := bnd hf
                            refine Any.takeE 17 rfl rfl rfl rfl (by kernel_rfl) (fun _ _ _ _ _ h => h) (ExS.g ((Ex.addT hy145 rfl rfl).s)) ?_
                            refine Any.one 4 (by kernel_rfl) rfl rfl (One.g <| One.of_ops rfl ?_)
                            refine Ops.str8 (own_slh f121 rfl (hst139.get (i := 5) rfl)) rfl Try.underlying22 Try.underlying5 Try.underlying9 rfl (Ops.stop ?_)
                            refine ⟨trivial, ?_⟩
                            refine Any.takeE 18 rfl rfl rfl rfl (by kernel_rfl) (fun _ _ _ _ _ h => h) (ExS.g ((Ex.eqlT rfl rfl).s)) ?_
                            refine Any.takeE 19 rfl rfl rfl rfl (by kernel_rfl) (fun _ _ _ _ _ h => h) ((Ex.pickT rfl rfl).s) ?_
                            refine Any.takeE 20 rfl rfl rfl rfl (by kernel_rfl) (fun _ _ _ _ _ h => h) ((Ex.assign rfl).s) ?_
                            refine Any.done (by kernel_rfl) ?_
                            exact Run.sub (by exact subB_spec ⟨rfl, trivial⟩) (hj124 _ _ ⟨decide (y120.1 = s145), Ha123, z120, hf, rfl, hm135, hy110_0, hy110_1, hz110, hA123, (St.forget (St.forget (St.forget (St.forget (St.forget hst139 5) 4) 3) 2) 1)⟩)
                        · skip
                          refine ⟨_, rfl, rfl, One.g <| One.of_ops rfl ?_⟩
                          refine Ops.str8 (f141.at_ hst139) rfl Try.underlying22 Try.underlying5 Try.underlying9 rfl (Ops.stop ?_)
                          refine ⟨trivial, ?_⟩
                          refine Any.all [4, 8] (by kernel_rfl) rfl (fun i hi => ?_)
                          simp only [List.mem_cons, List.not_mem_nil, or_false] at hi
                          rcases hi with rfl | rfl
                          · skip
                            refine ⟨_, rfl, rfl, One.g <| One.of_ops rfl ?_⟩
                            refine Ops.str8 (own_slh f121 rfl (hst139.get (i := 5) rfl)) rfl Try.underlying22 Try.underlying5 Try.underlying9 rfl (Ops.stop ?_)
                            refine ⟨trivial, ?_⟩
                            refine Any.one 8 (by kernel_rfl) rfl rfl (One.g <| One.of_ops rfl ?_)
                            refine Ops.str8 (f140.at_ hst139) rfl Try.underlying22 Try.underlying5 Try.underlying9 rfl (Ops.stop ?_)
                            refine ⟨trivial, ?_⟩
                            obtain ⟨s146, hy146, hf⟩ := bnd hf
                            refine Any.takeE 17 rfl rfl rfl rfl (by kernel_rfl) (fun _ _ _ _ _ h => h) (ExS.g ((Ex.addT hy146 rfl rfl).s)) ?_
                            refine Any.takeE 18 rfl rfl rfl rfl (by kernel_rfl) (fun _ _ _ _ _ h => h) (ExS.g ((Ex.eqlT rfl rfl).s)) ?_
                            refine Any.takeE 19 rfl rfl rfl rfl (by kernel_rfl) (fun _ _ _ _ _ h => h) ((Ex.pickT rfl rfl).s) ?_
                            refine Any.takeE 20 rfl rfl rfl rfl (by kernel_rfl) (fun _ _ _ _ _ h => h) ((Ex.assign rfl).s) ?_
                            refine Any.done (by kernel_rfl) ?_
                            exact Run.sub (by exact subB_spec ⟨rfl, trivial⟩) (hj124 _ _ ⟨decide (y120.1 = s146), Ha123, z120, hf, rfl, hm135, hy110_0, hy110_1, hz110, hA123, (St.forget (St.forget (St.forget (St.forget (St.forget hst139 5) 4) 3) 2) 1)⟩)
                          · skip
                            refine ⟨_, rfl, rfl, One.g <| One.of_ops rfl ?_⟩
                            refine Ops.str8 (f140.at_ hst139) rfl Try.underlying22 Try.underlying5 Try.underlying9 rfl (Ops.stop ?_)
                            refine ⟨trivial, ?_⟩
                            obtain ⟨s147, hy147, hf⟩ := bnd hf
                            refine Any.takeE 17 rfl rfl rfl rfl (by kernel_rfl) (fun _ _ _ _ _ h => h) (ExS.g ((Ex.addT hy147 rfl rfl).s)) ?_
                            refine Any.one 4 (by kernel_rfl) rfl rfl (One.g <| One.of_ops rfl ?_)
                            refine Ops.str8 (own_slh f121 rfl (hst139.get (i := 5) rfl)) rfl Try.underlying22 Try.underlying5 Try.underlying9 rfl (Ops.stop ?_)
                            refine ⟨trivial, ?_⟩
                            refine Any.takeE 18 rfl rfl rfl rfl (by kernel_rfl) (fun _ _ _ _ _ h => h) (ExS.g ((Ex.eqlT rfl rfl).s)) ?_
                            refine Any.takeE 19 rfl rfl rfl rfl (by kernel_rfl) (fun _ _ _ _ _ h => h) ((Ex.pickT rfl rfl).s) ?_
                            refine Any.takeE 20 rfl rfl rfl rfl (by kernel_rfl) (fun _ _ _ _ _ h => h) ((Ex.assign rfl).s) ?_
                            refine Any.done (by kernel_rfl) ?_
                            exact Run.sub (by exact subB_spec ⟨rfl, trivial⟩) (hj124 _ _ ⟨decide (y120.1 = s147), Ha123, z120, hf, rfl, hm135, hy110_0, hy110_1, hz110, hA123, (St.forget (St.forget (St.forget (St.forget (St.forget hst139 5) 4) 3) 2) 1)⟩)
                      · replace hf := ifF (dec_F hc) hf
                        refine Any.pass 3 rfl rfl rfl rfl (by kernel_rfl) (fun _ _ _ _ _ h => h) ?_
                        refine Any.pass 4 rfl rfl rfl rfl (by kernel_rfl) (fun _ _ _ _ _ h => h) ?_
                        refine Any.pass 5 rfl rfl rfl rfl (by kernel_rfl) (fun _ _ _ _ _ h => h) ?_
                        refine Any.pass 6 rfl rfl rfl rfl (by kernel_rfl) (fun _ _ _ _ _ h => h) ?_
                        refine Any.pass 7 rfl rfl rfl rfl (by kernel_rfl) (fun _ _ _ _ _ h => h) ?_
                        refine Any.pass 8 rfl rfl rfl rfl (by kernel_rfl) (fun _ _ _ _ _ h => h) ?_
                        refine Any.pass 9 rfl rfl rfl rfl (by kernel_rfl) (fun _ _ _ _ _ h => h) ?_
                        refine Any.pass 10 rfl rfl rfl rfl (by kernel_rfl) (fun _ _ _ _ _ h => h) ?_
                        refine Any.pass 11 rfl rfl rfl rfl (by kernel_rfl) (fun _ _ _ _ _ h => h) ?_
                        refine Any.pass 12 rfl rfl rfl rfl (by kernel_rfl) (fun _ _ _ _ _ h => h) ?_
                        refine Any.pass 13 rfl rfl rfl rfl (by kernel_rfl) (fun _ _ _ _ _ h => h) ?_
                        refine Any.pass 14 rfl rfl rfl rfl (by kernel_rfl) (fun _ _ _ _ _ h => h) ?_
                        refine Any.pass 15 rfl rfl rfl rfl (by kernel_rfl) (fun _ _ _ _ _ h => h) ?_
                        refine Any.pass 16 rfl rfl rfl rfl (by kernel_rfl) (fun _ _ _ _ _ h => h) ?_
                        refine Any.pass 17 rfl rfl rfl rfl (by kernel_rfl) (fun _ _ _ _ _ h => h) ?_
                        refine Any.pass 18 rfl rfl rfl rfl (by kernel_rfl) (fun _ _ _ _ _ h => h) ?_
                        refine Any.takeE 19 rfl rfl rfl rfl (by kernel_rfl) (fun _ _ _ _ _ h => h) ((Ex.pickF rfl rfl).s) ?_
                        refine Any.takeE 20 rfl rfl rfl rfl (by kernel_rfl) (fun _ _ _ _ _ h => h) ((Ex.assign rfl).s) ?_
                        refine Any.done (by kernel_rfl) ?_
                        exact Run.sub (by exact subB_spec ⟨rfl, trivial⟩) (hj124 _ _ ⟨false, Ha123, z120, hf, rfl, hm135, hy110_0, hy110_1, hz110, hA123, (St.forget (St.forget (St.forget (St.forget (St.forget hst139 5) 4) 3) 2) 1)⟩)
                    · rintro e' w148 ⟨b138, Ha137, z136, hf, rfl, hz148, hy148_0, hy148_1, hy148_2, hA137, hst148⟩
                      unfold go_law04_FilesCut.j2 at hf
                      obtain rfl := Option.some.inj hf
                      exact Run.retV [vb b138] rfl ⟨rfl, trivial⟩ ⟨z136, rfl, hy148_0, (St.forgetT hst148)⟩
def go_law04_FilesDown.j1 (nxb24 : (List filesfile × Mp (Option Nat) × Mp (Option Nat) × List (List fileschange) × Int × Int × Bool × Int) → Option Bool) (y234 : Bool) (y236 : Int) (y245 : Int × filesDisk × List filesfile) (b272 : Bool) : Option Bool :=
  if b272 then (some false) else (if y234 then (nxb24 (y245.2.2, y245.2.1.now_, y245.2.1.safe_, y245.2.1.wait_, y245.2.1.room_, y245.2.1.left_, y245.2.1.down_, y245.2.1.calls_)) else ((go_files_Disk_Calls y245.2.1).bind fun y285 => if y245.1 = 0 then (if (decide (y285 = y236)) = true then (some false) else (nxb24 (y245.2.2, y245.2.1.now_, y245.2.1.safe_, y245.2.1.wait_, y245.2.1.room_, y245.2.1.left_, y245.2.1.down_, y245.2.1.calls_))) else (if (decide (y285 = y236)) = (decide (y245.1 = 7)) then (some false) else (nxb24 (y245.2.2, y245.2.1.now_, y245.2.1.safe_, y245.2.1.wait_, y245.2.1.room_, y245.2.1.left_, y245.2.1.down_, y245.2.1.calls_)))))
def go_law04_FilesDown.b1 (i24 : Nat) (a24 : law04Act) : (List filesfile × Mp (Option Nat) × Mp (Option Nat) × List (List fileschange) × Int × Int × Bool × Int) → (List filesfile × Mp (Option Nat) × Mp (Option Nat) × List (List fileschange) × Int × Int × Bool × Int → Option Bool) → Option Bool :=
  fun (ar216, mp217, mp218, l219, x220, x221, b222, x223) nxb24 => (go_files_Disk_Down (⟨mp217, mp218, l219, x220, x221, b222, x223⟩ : filesDisk)).bind fun y234 => (go_files_Disk_Calls (⟨mp217, mp218, l219, x220, x221, b222, x223⟩ : filesDisk)).bind fun y236 => (go_files_Disk_Used (⟨mp217, mp218, l219, x220, x221, b222, x223⟩ : filesDisk) ar216).bind fun y238 => (cutI a24.Bytes 0 (min (a24.Bytes.length : Int) 40)).bind fun l244 => (go_law04_Do (⟨mp217, mp218, l219, x220, x221, b222, x223⟩ : filesDisk) a24 l244 ar216).bind fun y245 => if y234 then (if y245.1 = 7 then ((go_files_Disk_Calls y245.2.1).bind fun y273 => if y273 = y236 then ((go_files_Disk_Used y245.2.1 y245.2.2).bind fun y275 => if y275 = y238 then ((go_files_Disk_Down y245.2.1).bind fun y278 => if y278 then (if y245.1 = 7 then ((go_files_Disk_Down y245.2.1).bind fun y280 => go_law04_FilesDown.j1 nxb24 y234 y236 y245 (!y280)) else (go_law04_FilesDown.j1 nxb24 y234 y236 y245 false)) else (go_law04_FilesDown.j1 nxb24 y234 y236 y245 true)) else (go_law04_FilesDown.j1 nxb24 y234 y236 y245 true)) else (go_law04_FilesDown.j1 nxb24 y234 y236 y245 true)) else (go_law04_FilesDown.j1 nxb24 y234 y236 y245 true)) else (if y245.1 = 7 then ((go_files_Disk_Down y245.2.1).bind fun y282 => go_law04_FilesDown.j1 nxb24 y234 y236 y245 (!y282)) else (go_law04_FilesDown.j1 nxb24 y234 y236 y245 false))
def go_law04_FilesDown (p0 : List law04Act) (p1 : UInt8) : Option Bool :=
  (go_law04_awake).bind fun y3 => if y3 then ((go_files_Of 400).bind fun y5 => (go_files_Disk_Arm y5 ((p1 % 12).toNat : Int)).bind fun y15 => (cutI p0 0 (min (p0.length : Int) 60)).bind fun l23 => forL (go_law04_FilesDown.b1) (fun (ar216, mp217, mp218, l219, x220, x221, b222, x223) => (go_files_Disk_Restart (⟨mp217, mp218, l219, x220, x221, b222, x223⟩ : filesDisk) 3 3 ar216).bind fun y287 => (go_files_Disk_Down y287.1).bind fun y296 => if y296 then (some false) else ((go_files_Disk_Create y287.1 [110, 101, 119] y287.2).bind fun y298 => some (!(decide (y298.1 = 7))))) 0 l23 (([] : List filesfile), y15.now_, y15.safe_, y15.wait_, y15.room_, y15.left_, y15.down_, y15.calls_)) else (some false)
set_option maxRecDepth 100000 in
set_option maxHeartbeats 4000000 in
theorem go_law04_FilesDown.walk {w0 w : World} {X : List Res} {z0 : Zp} {p0 : List law04Act} {A1 : Option Addr} {c1 : Nat} {p1 : UInt8} {r : Bool} (hst : Ht w0 (frz z0 :: X) w) (f1 : Sl tlaw04Act z0 A1 c1 p0) (hf : go_law04_FilesDown p0 p1 = some r) :
    Calls Try.prog 8 #[.slice A1 p0.length c1, vu8 p1] w fun e w' => ∃ (z' : Zp), e = .returned (vb r) ∧ Le z0 z' ∧ Ht w0 (frz z' :: X) w' := by
  refine calls_np Try.func8 rfl rfl ?_
  have hle0 := Le.refl z0
  unfold go_law04_FilesDown at hf
  refine Run.seq ?_
  refine Run.region ?_
  refine Ops.ex (Ex.assign rfl) rfl rfl rfl ?_
  refine Ops.nil ?_
  refine Run.seq ?_
  refine Run.seq ?_
  refine Run.region ?_
  obtain ⟨y3, hy3, hf⟩ := bnd hf
  refine Ops.call rfl rfl Try.func11 (by kernel_rfl) (by kernel_rfl) rfl (go_law04_awake.walk (hst := hst) (hf := hy3)) ?_
  rintro _ w3 ⟨z3, rfl, hz3, hst3⟩
  refine ⟨_, rfl, ?_⟩
  replace f1 := f1.mono hz3
  replace hle0 := hle0.trans hz3
  refine Ops.ex (Ex.not rfl) rfl rfl rfl ?_
  refine Ops.nil ?_
  refine Run.cond rfl (fun hc => ?_) (fun hc => ?_)
  · replace hf := ifFb (bn_T hc) hf
    refine Run.seq ?_
    refine Run.region ?_
    refine Ops.ex (Ex.assign rfl) rfl rfl rfl ?_
    refine Ops.nil ?_
    obtain rfl := Option.some.inj hf
    exact Run.retV [vb false] rfl ⟨rfl, trivial⟩ ⟨z3, rfl, hle0, hst3⟩
  · replace hf := ifTb (bn_F hc) hf
    refine Run.skip ?_
    refine Run.seq ?_
    refine Run.region ?_
    obtain ⟨Γ1, hΓ6⟩ : ∃ L : List Nat, L = [] := ⟨_, rfl⟩
    have hA6 : Ar1 z3 Γ1 [] [] := ArL.nil _ _ hΓ6
    have hp6 := List.prefix_rfl (l := Γ1)
    have hst6 : Ht w0 (frz z3 :: ([] ++ X)) _ := hst3
    obtain ⟨y5, hy5, hf⟩ := bnd hf
    refine Ops.call rfl rfl Try.func12 (by kernel_rfl) (by kernel_rfl) rfl (go_files_Of.walk (Γ1 := Γ1) (p0 := 400) (hst := hst6) (hf := hy5)) ?_
    rintro _ w5 ⟨z5, g7, gm8, E8, c8, gm9, E9, c9, A10, c10, d10, rfl, hz5, f8, f9, f10, hst5⟩
    refine ⟨_, rfl, ?_⟩
    replace f1 := f1.mono hz5; replace hA6 := hA6.mono hz5
    replace hle0 := hle0.trans hz5
    refine Ops.ex (Ex.assign rfl) rfl rfl rfl ?_
    refine Ops.nil ?_
    refine Run.seq ?_
    refine Run.region ?_
    refine Ops.ex (Ex.move rfl) rfl rfl rfl ?_
    refine Ops.ex (Ex.move rfl) rfl rfl rfl ?_
    refine Ops.ex (Ex.rem8 (a := p1) (b := 12) rfl rfl (by decide)) rfl rfl rfl ?_
    refine Ops.ex (Ex.cu8 rfl Try.underlying5 Try.underlying3) rfl rfl rfl ?_
    obtain ⟨y15, hy15, hf⟩ := bnd hf
    refine Ops.call rfl rfl Try.func23 (by kernel_rfl) (by kernel_rfl) rfl (go_files_Disk_Arm.walk (Γ1 := Γ1) (p0 := y5) (p1 := ((p1 % 12).toNat : Int)) (hst := hst5) (f1 := f8) (f2 := f9) (f3 := f10) (hf := hy15)) ?_
    rintro _ w15 ⟨z15, gm16, E16, c16, gm17, E17, c17, A18, c18, d18, rfl, hz15, f16, f17, f18, hst15⟩
    refine ⟨_, rfl, ?_⟩
    replace f1 := f1.mono hz15; replace hA6 := hA6.mono hz15
    replace hle0 := hle0.trans hz15
    refine Ops.nil ?_
    refine Run.seq ?_
    refine Run.seq ?_
    refine Run.region ?_
    refine Ops.ex (Ex.move rfl) rfl rfl rfl ?_
    refine Ops.ex (Ex.move rfl) rfl rfl rfl ?_
    refine Ops.ex (Ex.len' rfl rfl rfl Try.underlying47) rfl rfl rfl ?_
    refine Ops.ex (Ex.min2 rfl rfl rfl) rfl rfl rfl ?_
    obtain ⟨l23, hy23, hf⟩ := bnd hf
    obtain ⟨A23, c23, hA23, hB23, f23⟩ := SlH.sub f1.toH hy23
    replace f23 := f23.toS
    refine Ops.ex (Ex.subA hA23 hB23 hy23 rfl rfl Try.underlying47 sz49 rfl rfl) rfl rfl rfl ?_
    refine Ops.ex (Ex.len' rfl rfl rfl Try.underlying47) rfl rfl rfl ?_
    refine Ops.ex (Ex.move rfl) rfl rfl rfl ?_
    refine Ops.nil ?_
    refine Run.block ?_
    have hc24 := f23.cap
    have hm25 := Le.refl z15
    refine Run.sub (e' := [(5, .pointer (some ⟨g7, 0, none⟩)), (24, .slice A23 l23.length c23), (25, vi (l23.length : Int)), (26, vi ((0 : Nat) : Int))]) (subB_spec ⟨rfl, rfl, rfl, rfl, trivial⟩) ?_
    refine Run.loop (fun mb24 => (fun e' w' => ∃ (i24 : Nat) (ar216 : List filesfile) (mp217 : Mp (Option Nat)) (mp218 : Mp (Option Nat)) (l219 : List (List fileschange)) (x220 : Int) (x221 : Int) (b222 : Bool) (x223 : Int) (Ha216 : List Res) (g217 : Nat) (E217 : Array MapEntry) (c217 : Nat) (g218 : Nat) (E218 : Array MapEntry) (c218 : Nat) (A219 : Option Addr) (c219 : Nat) (d219 : List Value) (Γn1 : List Nat) (z215 : Zp), mb24 = l23.length - i24 ∧ i24 ≤ l23.length ∧ forL (go_law04_FilesDown.b1) (fun (ar216, mp217, mp218, l219, x220, x221, b222, x223) => (go_files_Disk_Restart (⟨mp217, mp218, l219, x220, x221, b222, x223⟩ : filesDisk) 3 3 ar216).bind fun y287 => (go_files_Disk_Down y287.1).bind fun y296 => if y296 then (some false) else ((go_files_Disk_Create y287.1 [110, 101, 119] y287.2).bind fun y298 => some (!(decide (y298.1 = 7))))) i24 (l23.drop i24) (ar216, mp217, mp218, l219, x220, x221, b222, x223) = some r ∧ e' = [(5, .pointer (some ⟨g7, 0, none⟩)), (24, .slice A23 l23.length c23), (25, vi (l23.length : Int)), (26, vi (i24 : Int))] ∧ Le z15 z215 ∧ Le z0 z215 ∧ Ar1 z215 Γn1 ar216 Ha216 ∧ Mr (tA Γn1) pk1 z215 E217 c217 mp217 ∧ Mr (tA Γn1) pk1 z215 E218 c218 mp218 ∧ Cs (tSl (tfileschange Γn1)) z215 d219 l219 ∧ Γ1 <+: Γn1 ∧ Ht w0 (frz z215 :: (ob g217 (.map E217 c217)) :: (ob g218 (.map E218 c218)) :: (orow 78 1 (.slice A219 l219.length c219) l219.length d219) :: (blk g7 [.map (some g217), .map (some g218), .slice A219 l219.length c219, vi x220, vi x221, vb b222, vi x223] 68) :: (Ha216 ++ X)) w')) l23.length ⟨0, ([] : List filesfile), y15.now_, y15.safe_, y15.wait_, y15.room_, y15.left_, y15.down_, y15.calls_, [], gm16, E16, c16, gm17, E17, c17, A18, c18, d18, Γ1, z15, rfl, Nat.zero_le _, hf, rfl, hm25, hle0, hA6, f16, f17, f18, hp6, (St.up (St.up (St.up (St.up (St.up hst15 1 rfl) 4 rfl) 4 rfl) 4 rfl) 4 rfl)⟩ ?_
    rintro _ e' w225 ⟨i24, ar216, mp217, mp218, l219, x220, x221, b222, x223, Ha216, g217, E217, c217, g218, E218, c218, A219, c219, d219, Γ1, z215, rfl, hi24, hf, rfl, hz225, hy225_0, hA216, f217, f218, f219, hG1_224, hst225⟩
    replace f23 := f23.mono hz225
    replace hp6 := hp6.trans hG1_224
    refine Run.seq ?_
    refine Run.region ?_
    refine Ops.ex (Ex.lss rfl rfl) rfl rfl rfl ?_
    refine Ops.nil ?_
    refine Run.seq ?_
    refine Run.cond rfl (fun hc => ?_) (fun hc => ?_)
    · have hl24 := lt_of_dec hc
      obtain ⟨a24, nxb24, ha24, hnxb24, hf⟩ := forL_in hf hl24
      unfold go_law04_FilesDown.b1 at hf
      try dsimp only at hf
      refine Run.skip ?_
      refine Run.seq ?_
      refine Run.block ?_
      refine Run.seq ?_
      refine Run.region ?_
      obtain ⟨g231, p231, o231, cs231, hA231, ho231, hr231, f231⟩ := SlH.elem f23.toH (atI_nat ha24)
      obtain ⟨A229, c229, rfl, f229⟩ := hr231
      refine Ops.ex (Ex.ixA hA231 ho231 (atI_nat ha24) rfl rfl rfl Try.underlying47 sz49) rfl rfl rfl ?_
      refine Ops.loadAgg [vu8 a24.Op, vu8 a24.Name, vu8 a24.To, .slice A229 a24.Bytes.length c229, vi16 a24.N] rfl Try.underlying49 rfl sz49 rfl (cells_of_zc rfl (f231.mono hst225.le)) rfl ?_
      refine Ops.allocF [vu8 0, vu8 0, vu8 0, .slice none 0 0, vi16 0] hst225 zr49 rfl rfl (fun g232 w232 hst232 => ?_)
      refine Ops.store 1 [vu8 a24.Op, vu8 a24.Name, vu8 a24.To, .slice A229 a24.Bytes.length c229, vi16 a24.N] hst232 rfl rfl rfl rfl sz49 rfl (by simp [Value.oneCell']) (by simp) (fun w233 hst233 => ?_)
      refine Ops.nil ?_
      refine Run.seq ?_
      refine Run.region ?_
      refine Ops.ex (Ex.move rfl) rfl rfl rfl ?_
      obtain ⟨y234, hy234, hf⟩ := bnd hf
      refine Ops.call rfl rfl Try.func29 (by kernel_rfl) (by kernel_rfl) rfl (go_files_Disk_Down.walk (Γ1 := Γ1) (p0 := (⟨mp217, mp218, l219, x220, x221, b222, x223⟩ : filesDisk)) (hst := (St.up (St.up (St.up (St.up (St.up (St.up hst233 1 rfl) 4 rfl) 4 rfl) 4 rfl) 5 rfl) 5 rfl)) (f1 := f217) (f2 := f218) (f3 := f219) (hf := hy234)) ?_
      rintro _ w234 ⟨z234, rfl, hz234, hst234⟩
      refine ⟨_, rfl, ?_⟩
      replace f23 := f23.mono hz234; replace f231 := f231.mono hz234; replace f229 := f229.mono hz234; replace f217 := f217.mono hz234; replace f218 := f218.mono hz234; replace f219 := f219.mono hz234; replace hA216 := hA216.mono hz234
      replace hy225_0 := hy225_0.trans hz234
      replace hz225 := hz225.trans hz234
      refine Ops.ex (Ex.move rfl) rfl rfl rfl ?_
      obtain ⟨y236, hy236, hf⟩ := bnd hf
      refine Ops.call rfl rfl Try.func17 (by kernel_rfl) (by kernel_rfl) rfl (go_files_Disk_Calls.walk (Γ1 := Γ1) (p0 := (⟨mp217, mp218, l219, x220, x221, b222, x223⟩ : filesDisk)) (hst := hst234) (f1 := f217) (f2 := f218) (f3 := f219) (hf := hy236)) ?_
      rintro _ w236 ⟨z236, rfl, hz236, hst236⟩
      refine ⟨_, rfl, ?_⟩
      replace f23 := f23.mono hz236; replace f231 := f231.mono hz236; replace f229 := f229.mono hz236; replace f217 := f217.mono hz236; replace f218 := f218.mono hz236; replace f219 := f219.mono hz236; replace hA216 := hA216.mono hz236
      replace hy225_0 := hy225_0.trans hz236
      replace hz225 := hz225.trans hz236
      refine Ops.ex (Ex.move rfl) rfl rfl rfl ?_
      obtain ⟨y238, hy238, hf⟩ := bnd hf
      refine Ops.call rfl rfl Try.func21 (by kernel_rfl) (by kernel_rfl) rfl (go_files_Disk_Used.walk (Γ1 := Γ1) (p0 := (⟨mp217, mp218, l219, x220, x221, b222, x223⟩ : filesDisk)) (ar1 := ar216) (hst := (St.mid (B := [blk g7 [.map (some g217), .map (some g218), .slice A219 l219.length c219, vi x220, vi x221, vb b222, vi x223] 68, ob g217 (.map E217 c217), ob g218 (.map E218 c218), orow 78 1 (.slice A219 l219.length c219) l219.length d219]) (M := [blk g232 [vu8 a24.Op, vu8 a24.Name, vu8 a24.To, .slice A229 a24.Bytes.length c229, vi16 a24.N] 49]) (Ha := Ha216) hst236)) (f1 := f217) (f2 := f218) (f3 := f219) (hA1 := hA216) (Ha1 := Ha216) (hf := hy238)) ?_
      rintro _ w238 ⟨z238, Ha240, rfl, hz238, hA240, hst238⟩
      replace hst238 : Ht w0 (frz z238 :: (blk g7 [.map (some g217), .map (some g218), .slice A219 l219.length c219, vi x220, vi x221, vb b222, vi x223] 68) :: (ob g217 (.map E217 c217)) :: (ob g218 (.map E218 c218)) :: (orow 78 1 (.slice A219 l219.length c219) l219.length d219) :: (blk g232 [vu8 a24.Op, vu8 a24.Name, vu8 a24.To, .slice A229 a24.Bytes.length c229, vi16 a24.N] 49) :: (Ha240 ++ X)) _ := St.mid (B := [blk g7 [.map (some g217), .map (some g218), .slice A219 l219.length c219, vi x220, vi x221, vb b222, vi x223] 68, ob g217 (.map E217 c217), ob g218 (.map E218 c218), orow 78 1 (.slice A219 l219.length c219) l219.length d219]) (M := Ha240) (Ha := [blk g232 [vu8 a24.Op, vu8 a24.Name, vu8 a24.To, .slice A229 a24.Bytes.length c229, vi16 a24.N] 49]) hst238
      refine ⟨_, rfl, ?_⟩
      replace f23 := f23.mono hz238; replace f231 := f231.mono hz238; replace f229 := f229.mono hz238; replace f217 := f217.mono hz238; replace f218 := f218.mono hz238; replace f219 := f219.mono hz238
      replace hy225_0 := hy225_0.trans hz238
      replace hz225 := hz225.trans hz238
      refine Ops.ex (Ex.assign rfl) rfl rfl rfl ?_
      refine Ops.ex (Ex.assign rfl) rfl rfl rfl ?_
      refine Ops.ex (Ex.assign rfl) rfl rfl rfl ?_
      refine Ops.nil ?_
      refine Run.seq ?_
      have hm242 := Le.refl z238
      have hp243 := List.prefix_rfl (l := Γ1)
      refine Run.drawH [([], fun w => ∃ ζ Y, Le z238 ζ ∧ Ht w0 (frz ζ :: (blk g232 [vu8 a24.Op, vu8 a24.Name, vu8 a24.To, .slice A229 a24.Bytes.length c229, vi16 a24.N] 49) :: Y) w), ([9], fun w => ∃ ζ Y, Le z238 ζ ∧ Ht w0 (frz ζ :: (blk g7 [.map (some g217), .map (some g218), .slice A219 l219.length c219, vi x220, vi x221, vb b222, vi x223] 68) :: Y) w), ([9], fun w => ∃ ζ Y, Le z238 ζ ∧ Ht w0 (frz ζ :: (ob g218 (.map E218 c218)) :: Y) w), ([9], fun w => ∃ ζ Y, Le z238 ζ ∧ Ht w0 (frz ζ :: (ob g217 (.map E217 c217)) :: Y) w), ([9], fun w => ∃ ζ Y, Le z238 ζ ∧ Ht w0 (frz ζ :: (orow 78 1 (.slice A219 l219.length c219) l219.length d219) :: Y) w)] (by kernel_rfl) hst238 (fun w241 hst241 => ?_)
      have hS0 := (⟨_, _, (Le.refl _), (St.up (St.up hst241 5 rfl) 1 rfl)⟩ : (fun w => ∃ ζ Y, Le z238 ζ ∧ Ht w0 (frz ζ :: (blk g232 [vu8 a24.Op, vu8 a24.Name, vu8 a24.To, .slice A229 a24.Bytes.length c229, vi16 a24.N] 49) :: Y) w) _)
      have hS1 := (⟨_, _, (Le.refl _), (St.up (St.up hst241 1 rfl) 1 rfl)⟩ : (fun w => ∃ ζ Y, Le z238 ζ ∧ Ht w0 (frz ζ :: (blk g7 [.map (some g217), .map (some g218), .slice A219 l219.length c219, vi x220, vi x221, vb b222, vi x223] 68) :: Y) w) _)
      have hS2 := (⟨_, _, (Le.refl _), (St.up (St.up hst241 3 rfl) 1 rfl)⟩ : (fun w => ∃ ζ Y, Le z238 ζ ∧ Ht w0 (frz ζ :: (ob g218 (.map E218 c218)) :: Y) w) _)
      have hS3 := (⟨_, _, (Le.refl _), (St.up (St.up hst241 2 rfl) 1 rfl)⟩ : (fun w => ∃ ζ Y, Le z238 ζ ∧ Ht w0 (frz ζ :: (ob g217 (.map E217 c217)) :: Y) w) _)
      have hS4 := (⟨_, _, (Le.refl _), (St.up (St.up hst241 4 rfl) 1 rfl)⟩ : (fun w => ∃ ζ Y, Le z238 ζ ∧ Ht w0 (frz ζ :: (orow 78 1 (.slice A219 l219.length c219) l219.length d219) :: Y) w) _)
      refine Any.takeE 0 rfl rfl rfl rfl (by kernel_rfl) (fun _ _ _ _ _ h => h) ((Ex.move rfl).s) ?_
      refine Any.take 0 1 rfl rfl rfl rfl rfl (by kernel_rfl) (fun _ _ _ _ _ h => h) (ExS.loadAgg [vu8 a24.Op, vu8 a24.Name, vu8 a24.To, .slice A229 a24.Bytes.length c229, vi16 a24.N] rfl Try.underlying49 rfl sz49 rfl (fun w hS => by obtain ⟨_, _, _, hs⟩ := hS; exact hs.cells (i := 1) rfl 0 5)) hS0 ?_
      refine Any.takeE 2 rfl rfl rfl rfl (by kernel_rfl) (fun _ _ _ _ _ h => h) ((Ex.fieldAddr rfl Try.underlying49 rfl sz22).s) ?_
      refine Any.take 0 3 rfl rfl rfl rfl rfl (by kernel_rfl) (fun _ _ _ _ _ h => h) (ExS.load rfl Try.underlying22 rfl (fun w hS => by obtain ⟨_, _, _, hs⟩ := hS; exact hs.cell (i := 1) rfl rfl)) hS0 ?_
      refine Any.takeE 4 rfl rfl rfl rfl (by kernel_rfl) (fun _ _ _ _ _ h => h) ((Ex.fieldAddr rfl Try.underlying49 rfl sz22).s) ?_
      refine Any.take 0 5 rfl rfl rfl rfl rfl (by kernel_rfl) (fun _ _ _ _ _ h => h) (ExS.load rfl Try.underlying22 rfl (fun w hS => by obtain ⟨_, _, _, hs⟩ := hS; exact hs.cell (i := 1) rfl rfl)) hS0 ?_
      refine Any.takeE 6 rfl rfl rfl rfl (by kernel_rfl) (fun _ _ _ _ _ h => h) ((Ex.len' rfl rfl rfl Try.underlying22).s) ?_
      refine Any.takeE 7 rfl rfl rfl rfl (by kernel_rfl) (fun _ _ _ _ _ h => h) ((Ex.min2 rfl rfl rfl).s) ?_
      obtain ⟨l244, hy244, hf⟩ := bnd hf
      obtain ⟨A244, c244, hA244, hB244, f244⟩ := SlH.sub f229.toH hy244
      replace f244 := f244.toS
      refine Any.takeE 8 rfl rfl rfl rfl (by kernel_rfl) (fun _ _ _ _ _ h => h) ((Ex.subA hA244 hB244 hy244 rfl rfl Try.underlying22 sz5 rfl rfl).s) ?_
      obtain ⟨y245, hy245, hf⟩ := bnd hf
      refine Any.one 9 (by kernel_rfl) rfl rfl (One.of_ops rfl ?_)
      refine Ops.call rfl rfl Try.func30 (by kernel_rfl) (by kernel_rfl) rfl (go_law04_Do.walk (Γ1 := Γ1) (p0 := (⟨mp217, mp218, l219, x220, x221, b222, x223⟩ : filesDisk)) (p1 := a24) (p2 := l244) (ar1 := ar216) (hst := (St.mid (B := [blk g7 [.map (some g217), .map (some g218), .slice A219 l219.length c219, vi x220, vi x221, vb b222, vi x223] 68, ob g217 (.map E217 c217), ob g218 (.map E218 c218), orow 78 1 (.slice A219 l219.length c219) l219.length d219]) (M := [blk g232 [vu8 a24.Op, vu8 a24.Name, vu8 a24.To, .slice A229 a24.Bytes.length c229, vi16 a24.N] 49]) (Ha := Ha240) hst241)) (f1 := f217) (f2 := f218) (f3 := f219) (f11 := f229) (f13 := f244) (hA1 := hA240) (Ha1 := Ha240) (hf := hy245)) ?_
      rintro _ w245 ⟨z245, gm247, E247, c247, gm248, E248, c248, A249, c249, d249, Ha254, Γ1, rfl, hz245, f247, f248, f249, hA254, hG1_255, hst245⟩
      replace hst245 : Ht w0 (frz z245 :: (blk g7 [.map (some gm247), .map (some gm248), .slice A249 y245.2.1.wait_.length c249, vi y245.2.1.room_, vi y245.2.1.left_, vb y245.2.1.down_, vi y245.2.1.calls_] 68) :: (ob gm247 (.map E247 c247)) :: (ob gm248 (.map E248 c248)) :: (orow 78 1 (.slice A249 y245.2.1.wait_.length c249) y245.2.1.wait_.length d249) :: (blk g232 [vu8 a24.Op, vu8 a24.Name, vu8 a24.To, .slice A229 a24.Bytes.length c229, vi16 a24.N] 49) :: (Ha254 ++ X)) _ := St.mid (B := [blk g7 [.map (some gm247), .map (some gm248), .slice A249 y245.2.1.wait_.length c249, vi y245.2.1.room_, vi y245.2.1.left_, vb y245.2.1.down_, vi y245.2.1.calls_] 68, ob gm247 (.map E247 c247), ob gm248 (.map E248 c248), orow 78 1 (.slice A249 y245.2.1.wait_.length c249) y245.2.1.wait_.length d249]) (M := Ha254) (Ha := [blk g232 [vu8 a24.Op, vu8 a24.Name, vu8 a24.To, .slice A229 a24.Bytes.length c229, vi16 a24.N] 49]) hst245
      refine ⟨_, rfl, Ops.stop ?_⟩
      replace f23 := f23.mono hz245; replace f231 := f231.mono hz245; replace f229 := f229.mono hz245; replace f244 := f244.mono hz245
      replace hy225_0 := hy225_0.trans hz245
      replace hz225 := hz225.trans hz245
      replace hm242 := hm242.trans hz245
      replace hp6 := hp6.trans hG1_255
      replace hp243 := hp243.trans hG1_255
      have hS0 := (⟨_, _, hm242, (St.up (St.up hst245 5 rfl) 1 rfl)⟩ : (fun w => ∃ ζ Y, Le z238 ζ ∧ Ht w0 (frz ζ :: (blk g232 [vu8 a24.Op, vu8 a24.Name, vu8 a24.To, .slice A229 a24.Bytes.length c229, vi16 a24.N] 49) :: Y) w) _)
      refine ⟨⟨.inr (fun _ => hS0), .inl (by decide), .inl (by decide), .inl (by decide), .inl (by decide), trivial⟩, ?_⟩
      refine Any.takeE 10 rfl rfl rfl rfl (by kernel_rfl) (fun _ _ _ _ _ h => h) ((Ex.assign rfl).s) ?_
      refine Any.done (by kernel_rfl) ?_
      refine Run.seq ?_
      refine Run.seq ?_
      have hm268 := Le.refl z245
      have hp269 := List.prefix_rfl (l := Γ1)
      apply Run.jn (fun e' w' => ∃ (b272 : Bool) (Ha271 : List Res) (z270 : Zp), go_law04_FilesDown.j1 nxb24 y234 y236 y245 b272 = some r ∧ e' = [(5, .pointer (some ⟨g7, 0, none⟩)), (8, vb y234), (9, vi y236), (11, vi y245.1), (24, .slice A23 l23.length c23), (25, vi (l23.length : Int)), (26, vi (i24 : Int)), (76, vb b272)] ∧ Le z245 z270 ∧ Le z0 z270 ∧ Le z15 z270 ∧ Le z238 z270 ∧ Ar1 z270 Γ1 y245.2.2 Ha271 ∧ Ht w0 (frz z270 :: (blk g7 [.map (some gm247), .map (some gm248), .slice A249 y245.2.1.wait_.length c249, vi y245.2.1.room_, vi y245.2.1.left_, vb y245.2.1.down_, vi y245.2.1.calls_] 68) :: (ob gm247 (.map E247 c247)) :: (ob gm248 (.map E248 c248)) :: (orow 78 1 (.slice A249 y245.2.1.wait_.length c249) y245.2.1.wait_.length d249) :: (Ha271 ++ X)) w')
      · intro hj256
        refine Run.region ?_
        refine Ops.ex (Ex.move rfl) rfl rfl rfl ?_
        refine Ops.ex (Ex.move rfl) rfl rfl rfl ?_
        refine Ops.case 47 rfl (fun hc => ?_) (fun hc => ?_)
        · replace hf := ifTb hc hf
          refine Ops.on rfl ?_
          refine Ops.ex (Ex.move rfl) rfl rfl rfl ?_
          refine Ops.on rfl ?_
          refine Ops.ex (Ex.neqI rfl rfl) rfl rfl rfl ?_
          refine Ops.on rfl ?_
          refine Ops.ex (Ex.move rfl) rfl rfl rfl ?_
          refine Ops.case 50 rfl (fun hc => ?_) (fun hc => ?_)
          · replace hf := ifF (neq_T hc) hf
            refine Ops.off rfl rfl ?_
            refine Ops.off rfl rfl ?_
            refine Ops.off rfl rfl ?_
            refine Ops.off rfl rfl ?_
            refine Ops.on rfl ?_
            refine Ops.ex (Ex.pickT rfl rfl) rfl rfl rfl ?_
            refine Ops.on rfl ?_
            refine Ops.ex (Ex.move rfl) rfl rfl rfl ?_
            refine Ops.off rfl rfl ?_
            refine Ops.off rfl rfl ?_
            refine Ops.off rfl rfl ?_
            refine Ops.off rfl rfl ?_
            refine Ops.on rfl ?_
            refine Ops.ex (Ex.pickT rfl rfl) rfl rfl rfl ?_
            refine Ops.on rfl ?_
            refine Ops.ex (Ex.move rfl) rfl rfl rfl ?_
            refine Ops.off rfl rfl ?_
            refine Ops.off rfl rfl ?_
            refine Ops.off rfl rfl ?_
            refine Ops.on rfl ?_
            refine Ops.ex (Ex.pickT rfl rfl) rfl rfl rfl ?_
            refine Ops.ex (Ex.pickT rfl rfl) rfl rfl rfl ?_
            refine Ops.ex (Ex.move rfl) rfl rfl rfl ?_
            refine Ops.off rfl rfl ?_
            refine Ops.off rfl rfl ?_
            refine Ops.off rfl rfl ?_
            refine Ops.offU rfl rfl ?_
            refine Ops.offU rfl rfl ?_
            refine Ops.offU rfl rfl ?_
            refine Ops.off rfl rfl ?_
            refine Ops.ex (Ex.pickT rfl rfl) rfl rfl rfl ?_
            refine Ops.nil ?_
            exact Run.sub (by exact subB_spec ⟨rfl, rfl, rfl, rfl, rfl, rfl, rfl, rfl, trivial⟩) (hj256 _ _ ⟨true, Ha254, z245, hf, rfl, hm268, hy225_0, hz225, hm242, hA254, (St.forget hst245 5)⟩)
          · replace hf := ifT (neq_F hc) hf
            refine Ops.on rfl ?_
            refine Ops.ex (Ex.move rfl) rfl rfl rfl ?_
            refine Ops.on rfl ?_
            obtain ⟨y273, hy273, hf⟩ := bnd hf
            refine Ops.call rfl rfl Try.func17 (by kernel_rfl) (by kernel_rfl) rfl (go_files_Disk_Calls.walk (Γ1 := Γ1) (p0 := y245.2.1) (hst := hst245) (f1 := f247) (f2 := f248) (f3 := f249) (hf := hy273)) ?_
            rintro _ w273 ⟨z273, rfl, hz273, hst273⟩
            refine ⟨_, rfl, ?_⟩
            replace f23 := f23.mono hz273; replace f231 := f231.mono hz273; replace f229 := f229.mono hz273; replace f244 := f244.mono hz273; replace f247 := f247.mono hz273; replace f248 := f248.mono hz273; replace f249 := f249.mono hz273; replace hA254 := hA254.mono hz273
            replace hy225_0 := hy225_0.trans hz273
            replace hz225 := hz225.trans hz273
            replace hm242 := hm242.trans hz273
            replace hm268 := hm268.trans hz273
            refine Ops.on rfl ?_
            refine Ops.ex (Ex.move rfl) rfl rfl rfl ?_
            refine Ops.on rfl ?_
            refine Ops.ex (Ex.neqI rfl rfl) rfl rfl rfl ?_
            refine Ops.on rfl ?_
            refine Ops.ex (Ex.pickF rfl rfl) rfl rfl rfl ?_
            refine Ops.on rfl ?_
            refine Ops.ex (Ex.move rfl) rfl rfl rfl ?_
            refine Ops.case 56 rfl (fun hc => ?_) (fun hc => ?_)
            · replace hf := ifF (neq_T hc) hf
              refine Ops.off rfl rfl ?_
              refine Ops.off rfl rfl ?_
              refine Ops.off rfl rfl ?_
              refine Ops.off rfl rfl ?_
              refine Ops.on rfl ?_
              refine Ops.ex (Ex.pickT rfl rfl) rfl rfl rfl ?_
              refine Ops.on rfl ?_
              refine Ops.ex (Ex.move rfl) rfl rfl rfl ?_
              refine Ops.off rfl rfl ?_
              refine Ops.off rfl rfl ?_
              refine Ops.off rfl rfl ?_
              refine Ops.on rfl ?_
              refine Ops.ex (Ex.pickT rfl rfl) rfl rfl rfl ?_
              refine Ops.ex (Ex.pickT rfl rfl) rfl rfl rfl ?_
              refine Ops.ex (Ex.move rfl) rfl rfl rfl ?_
              refine Ops.off rfl rfl ?_
              refine Ops.off rfl rfl ?_
              refine Ops.off rfl rfl ?_
              refine Ops.offU rfl rfl ?_
              refine Ops.offU rfl rfl ?_
              refine Ops.offU rfl rfl ?_
              refine Ops.off rfl rfl ?_
              refine Ops.ex (Ex.pickT rfl rfl) rfl rfl rfl ?_
              refine Ops.nil ?_
              exact Run.sub (by exact subB_spec ⟨rfl, rfl, rfl, rfl, rfl, rfl, rfl, rfl, trivial⟩) (hj256 _ _ ⟨true, Ha254, z273, hf, rfl, hm268, hy225_0, hz225, hm242, hA254, (St.forget hst273 5)⟩)
            · replace hf := ifT (neq_F hc) hf
              refine Ops.on rfl ?_
              refine Ops.ex (Ex.move rfl) rfl rfl rfl ?_
              refine Ops.on rfl ?_
              obtain ⟨y275, hy275, hf⟩ := bnd hf
              refine Ops.call rfl rfl Try.func21 (by kernel_rfl) (by kernel_rfl) rfl (go_files_Disk_Used.walk (Γ1 := Γ1) (p0 := y245.2.1) (ar1 := y245.2.2) (hst := (St.mid (B := [blk g7 [.map (some gm247), .map (some gm248), .slice A249 y245.2.1.wait_.length c249, vi y245.2.1.room_, vi y245.2.1.left_, vb y245.2.1.down_, vi y245.2.1.calls_] 68, ob gm247 (.map E247 c247), ob gm248 (.map E248 c248), orow 78 1 (.slice A249 y245.2.1.wait_.length c249) y245.2.1.wait_.length d249]) (M := [blk g232 [vu8 a24.Op, vu8 a24.Name, vu8 a24.To, .slice A229 a24.Bytes.length c229, vi16 a24.N] 49]) (Ha := Ha254) hst273)) (f1 := f247) (f2 := f248) (f3 := f249) (hA1 := hA254) (Ha1 := Ha254) (hf := hy275)) ?_
              rintro _ w275 ⟨z275, Ha277, rfl, hz275, hA277, hst275⟩
              replace hst275 : Ht w0 (frz z275 :: (blk g7 [.map (some gm247), .map (some gm248), .slice A249 y245.2.1.wait_.length c249, vi y245.2.1.room_, vi y245.2.1.left_, vb y245.2.1.down_, vi y245.2.1.calls_] 68) :: (ob gm247 (.map E247 c247)) :: (ob gm248 (.map E248 c248)) :: (orow 78 1 (.slice A249 y245.2.1.wait_.length c249) y245.2.1.wait_.length d249) :: (blk g232 [vu8 a24.Op, vu8 a24.Name, vu8 a24.To, .slice A229 a24.Bytes.length c229, vi16 a24.N] 49) :: (Ha277 ++ X)) _ := St.mid (B := [blk g7 [.map (some gm247), .map (some gm248), .slice A249 y245.2.1.wait_.length c249, vi y245.2.1.room_, vi y245.2.1.left_, vb y245.2.1.down_, vi y245.2.1.calls_] 68, ob gm247 (.map E247 c247), ob gm248 (.map E248 c248), orow 78 1 (.slice A249 y245.2.1.wait_.length c249) y245.2.1.wait_.length d249]) (M := Ha277) (Ha := [blk g232 [vu8 a24.Op, vu8 a24.Name, vu8 a24.To, .slice A229 a24.Bytes.length c229, vi16 a24.N] 49]) hst275
              refine ⟨_, rfl, ?_⟩
              replace f23 := f23.mono hz275; replace f231 := f231.mono hz275; replace f229 := f229.mono hz275; replace f244 := f244.mono hz275; replace f247 := f247.mono hz275; replace f248 := f248.mono hz275; replace f249 := f249.mono hz275
              replace hy225_0 := hy225_0.trans hz275
              replace hz225 := hz225.trans hz275
              replace hm242 := hm242.trans hz275
              replace hm268 := hm268.trans hz275
              refine Ops.on rfl ?_
              refine Ops.ex (Ex.move rfl) rfl rfl rfl ?_
              refine Ops.on rfl ?_
              refine Ops.ex (Ex.neqI rfl rfl) rfl rfl rfl ?_
              refine Ops.on rfl ?_
              refine Ops.ex (Ex.pickF rfl rfl) rfl rfl rfl ?_
              refine Ops.on rfl ?_
              refine Ops.ex (Ex.move rfl) rfl rfl rfl ?_
              refine Ops.case 62 rfl (fun hc => ?_) (fun hc => ?_)
              · replace hf := ifF (neq_T hc) hf
                refine Ops.off rfl rfl ?_
                refine Ops.off rfl rfl ?_
                refine Ops.off rfl rfl ?_
                refine Ops.on rfl ?_
                refine Ops.ex (Ex.pickT rfl rfl) rfl rfl rfl ?_
                refine Ops.ex (Ex.pickT rfl rfl) rfl rfl rfl ?_
                refine Ops.ex (Ex.move rfl) rfl rfl rfl ?_
                refine Ops.off rfl rfl ?_
                refine Ops.off rfl rfl ?_
                refine Ops.off rfl rfl ?_
                refine Ops.offU rfl rfl ?_
                refine Ops.offU rfl rfl ?_
                refine Ops.offU rfl rfl ?_
                refine Ops.off rfl rfl ?_
                refine Ops.ex (Ex.pickT rfl rfl) rfl rfl rfl ?_
                refine Ops.nil ?_
                exact Run.sub (by exact subB_spec ⟨rfl, rfl, rfl, rfl, rfl, rfl, rfl, rfl, trivial⟩) (hj256 _ _ ⟨true, Ha277, z275, hf, rfl, hm268, hy225_0, hz225, hm242, hA277, (St.forget hst275 5)⟩)
              · replace hf := ifT (neq_F hc) hf
                refine Ops.on rfl ?_
                refine Ops.ex (Ex.move rfl) rfl rfl rfl ?_
                refine Ops.on rfl ?_
                obtain ⟨y278, hy278, hf⟩ := bnd hf
                refine Ops.call rfl rfl Try.func29 (by kernel_rfl) (by kernel_rfl) rfl (go_files_Disk_Down.walk (Γ1 := Γ1) (p0 := y245.2.1) (hst := hst275) (f1 := f247) (f2 := f248) (f3 := f249) (hf := hy278)) ?_
                rintro _ w278 ⟨z278, rfl, hz278, hst278⟩
                refine ⟨_, rfl, ?_⟩
                replace f23 := f23.mono hz278; replace f231 := f231.mono hz278; replace f229 := f229.mono hz278; replace f244 := f244.mono hz278; replace f247 := f247.mono hz278; replace f248 := f248.mono hz278; replace f249 := f249.mono hz278; replace hA277 := hA277.mono hz278
                replace hy225_0 := hy225_0.trans hz278
                replace hz225 := hz225.trans hz278
                replace hm242 := hm242.trans hz278
                replace hm268 := hm268.trans hz278
                refine Ops.on rfl ?_
                refine Ops.ex (Ex.not rfl) rfl rfl rfl ?_
                refine Ops.on rfl ?_
                refine Ops.ex (Ex.pickF rfl rfl) rfl rfl rfl ?_
                refine Ops.ex (Ex.pickT rfl rfl) rfl rfl rfl ?_
                refine Ops.ex (Ex.move rfl) rfl rfl rfl ?_
                refine Ops.case 68 rfl (fun hc => ?_) (fun hc => ?_)
                · replace hf := ifFb (bn_T hc) hf
                  refine Ops.off rfl rfl ?_
                  refine Ops.off rfl rfl ?_
                  refine Ops.off rfl rfl ?_
                  refine Ops.offU rfl rfl ?_
                  refine Ops.offU rfl rfl ?_
                  refine Ops.offU rfl rfl ?_
                  refine Ops.off rfl rfl ?_
                  refine Ops.ex (Ex.pickT rfl rfl) rfl rfl rfl ?_
                  refine Ops.nil ?_
                  exact Run.sub (by exact subB_spec ⟨rfl, rfl, rfl, rfl, rfl, rfl, rfl, rfl, trivial⟩) (hj256 _ _ ⟨true, Ha277, z278, hf, rfl, hm268, hy225_0, hz225, hm242, hA277, (St.forget hst278 5)⟩)
                · replace hf := ifTb (bn_F hc) hf
                  refine Ops.on rfl ?_
                  refine Ops.ex (Ex.move rfl) rfl rfl rfl ?_
                  refine Ops.on rfl ?_
                  refine Ops.ex (Ex.eqlI rfl rfl) rfl rfl rfl ?_
                  refine Ops.on rfl ?_
                  refine Ops.ex (Ex.move rfl) rfl rfl rfl ?_
                  refine Ops.case 71 rfl (fun hc => ?_) (fun hc => ?_)
                  · replace hf := ifT (dec_T hc) hf
                    refine Ops.on rfl ?_
                    refine Ops.ex (Ex.move rfl) rfl rfl rfl ?_
                    refine Ops.on rfl ?_
                    obtain ⟨y280, hy280, hf⟩ := bnd hf
                    refine Ops.call rfl rfl Try.func29 (by kernel_rfl) (by kernel_rfl) rfl (go_files_Disk_Down.walk (Γ1 := Γ1) (p0 := y245.2.1) (hst := hst278) (f1 := f247) (f2 := f248) (f3 := f249) (hf := hy280)) ?_
                    rintro _ w280 ⟨z280, rfl, hz280, hst280⟩
                    refine ⟨_, rfl, ?_⟩
                    replace f23 := f23.mono hz280; replace f231 := f231.mono hz280; replace f229 := f229.mono hz280; replace f244 := f244.mono hz280; replace f247 := f247.mono hz280; replace f248 := f248.mono hz280; replace f249 := f249.mono hz280; replace hA277 := hA277.mono hz280
                    replace hy225_0 := hy225_0.trans hz280
                    replace hz225 := hz225.trans hz280
                    replace hm242 := hm242.trans hz280
                    replace hm268 := hm268.trans hz280
                    refine Ops.on rfl ?_
                    refine Ops.ex (Ex.not rfl) rfl rfl rfl ?_
                    refine Ops.on rfl ?_
                    refine Ops.ex (Ex.pickT rfl rfl) rfl rfl rfl ?_
                    refine Ops.ex (Ex.pickF rfl rfl) rfl rfl rfl ?_
                    refine Ops.nil ?_
                    exact Run.sub (by exact subB_spec ⟨rfl, rfl, rfl, rfl, rfl, rfl, rfl, rfl, trivial⟩) (hj256 _ _ ⟨!y280, Ha277, z280, hf, rfl, hm268, hy225_0, hz225, hm242, hA277, (St.forget hst280 5)⟩)
                  · replace hf := ifF (dec_F hc) hf
                    refine Ops.off rfl rfl ?_
                    refine Ops.off rfl rfl ?_
                    refine Ops.off rfl rfl ?_
                    refine Ops.on rfl ?_
                    refine Ops.ex (Ex.pickF rfl rfl) rfl rfl rfl ?_
                    refine Ops.ex (Ex.pickF rfl rfl) rfl rfl rfl ?_
                    refine Ops.nil ?_
                    exact Run.sub (by exact subB_spec ⟨rfl, rfl, rfl, rfl, rfl, rfl, rfl, rfl, trivial⟩) (hj256 _ _ ⟨false, Ha277, z278, hf, rfl, hm268, hy225_0, hz225, hm242, hA277, (St.forget hst278 5)⟩)
        · replace hf := ifFb hc hf
          refine Ops.off rfl rfl ?_
          refine Ops.off rfl rfl ?_
          refine Ops.off rfl rfl ?_
          refine Ops.offU rfl rfl ?_
          refine Ops.offU rfl rfl ?_
          refine Ops.offU rfl rfl ?_
          refine Ops.offU rfl rfl ?_
          refine Ops.off rfl rfl ?_
          refine Ops.off rfl rfl ?_
          refine Ops.offU rfl rfl ?_
          refine Ops.offU rfl rfl ?_
          refine Ops.offU rfl rfl ?_
          refine Ops.offU rfl rfl ?_
          refine Ops.off rfl rfl ?_
          refine Ops.off rfl rfl ?_
          refine Ops.offU rfl rfl ?_
          refine Ops.offU rfl rfl ?_
          refine Ops.offU rfl rfl ?_
          refine Ops.off rfl rfl ?_
          refine Ops.ex (Ex.pickF rfl rfl) rfl rfl rfl ?_
          refine Ops.ex (Ex.move rfl) rfl rfl rfl ?_
          refine Ops.on rfl ?_
          refine Ops.ex (Ex.move rfl) rfl rfl rfl ?_
          refine Ops.on rfl ?_
          refine Ops.ex (Ex.eqlI rfl rfl) rfl rfl rfl ?_
          refine Ops.on rfl ?_
          refine Ops.ex (Ex.move rfl) rfl rfl rfl ?_
          refine Ops.case 71 rfl (fun hc => ?_) (fun hc => ?_)
          · replace hf := ifT (dec_T hc) hf
            refine Ops.on rfl ?_
            refine Ops.ex (Ex.move rfl) rfl rfl rfl ?_
            refine Ops.on rfl ?_
            obtain ⟨y282, hy282, hf⟩ := bnd hf
            refine Ops.call rfl rfl Try.func29 (by kernel_rfl) (by kernel_rfl) rfl (go_files_Disk_Down.walk (Γ1 := Γ1) (p0 := y245.2.1) (hst := hst245) (f1 := f247) (f2 := f248) (f3 := f249) (hf := hy282)) ?_
            rintro _ w282 ⟨z282, rfl, hz282, hst282⟩
            refine ⟨_, rfl, ?_⟩
            replace f23 := f23.mono hz282; replace f231 := f231.mono hz282; replace f229 := f229.mono hz282; replace f244 := f244.mono hz282; replace f247 := f247.mono hz282; replace f248 := f248.mono hz282; replace f249 := f249.mono hz282; replace hA254 := hA254.mono hz282
            replace hy225_0 := hy225_0.trans hz282
            replace hz225 := hz225.trans hz282
            replace hm242 := hm242.trans hz282
            replace hm268 := hm268.trans hz282
            refine Ops.on rfl ?_
            refine Ops.ex (Ex.not rfl) rfl rfl rfl ?_
            refine Ops.on rfl ?_
            refine Ops.ex (Ex.pickT rfl rfl) rfl rfl rfl ?_
            refine Ops.ex (Ex.pickF rfl rfl) rfl rfl rfl ?_
            refine Ops.nil ?_
            exact Run.sub (by exact subB_spec ⟨rfl, rfl, rfl, rfl, rfl, rfl, rfl, rfl, trivial⟩) (hj256 _ _ ⟨!y282, Ha254, z282, hf, rfl, hm268, hy225_0, hz225, hm242, hA254, (St.forget hst282 5)⟩)
          · replace hf := ifF (dec_F hc) hf
            refine Ops.off rfl rfl ?_
            refine Ops.off rfl rfl ?_
            refine Ops.off rfl rfl ?_
            refine Ops.on rfl ?_
            refine Ops.ex (Ex.pickF rfl rfl) rfl rfl rfl ?_
            refine Ops.ex (Ex.pickF rfl rfl) rfl rfl rfl ?_
            refine Ops.nil ?_
            exact Run.sub (by exact subB_spec ⟨rfl, rfl, rfl, rfl, rfl, rfl, rfl, rfl, trivial⟩) (hj256 _ _ ⟨false, Ha254, z245, hf, rfl, hm268, hy225_0, hz225, hm242, hA254, (St.forget hst245 5)⟩)
      · rintro e' w284 ⟨b272, Ha271, z270, hf, rfl, hz284, hy284_0, hy284_1, hy284_2, hA271, hst284⟩
        replace f23 := f23.mono hz284; replace f247 := f247.mono hz284; replace f248 := f248.mono hz284; replace f249 := f249.mono hz284
        unfold go_law04_FilesDown.j1 at hf
        refine Run.cond rfl (fun hc => ?_) (fun hc => ?_)
        · replace hf := ifTb hc hf
          refine Run.seq ?_
          refine Run.region ?_
          refine Ops.ex (Ex.assign rfl) rfl rfl rfl ?_
          refine Ops.nil ?_
          obtain rfl := Option.some.inj hf
          exact Run.retV [vb false] rfl ⟨rfl, trivial⟩ ⟨z270, rfl, hy284_0, (St.forgetT (St.forget (St.forget (St.forget (St.forget hst284 4) 3) 2) 1))⟩
        · replace hf := ifFb hc hf
          refine Run.skip ?_
          refine Run.seq ?_
          refine Run.region ?_
          refine Ops.ex (Ex.move rfl) rfl rfl rfl ?_
          refine Ops.ex (Ex.not rfl) rfl rfl rfl ?_
          refine Ops.ex (Ex.move rfl) rfl rfl rfl ?_
          refine Ops.case 79 rfl (fun hc => ?_) (fun hc => ?_)
          · replace hf := ifFb (bn_T hc) hf
            refine Ops.on rfl ?_
            refine Ops.ex (Ex.move rfl) rfl rfl rfl ?_
            refine Ops.on rfl ?_
            obtain ⟨y285, hy285, hf⟩ := bnd hf
            refine Ops.call rfl rfl Try.func17 (by kernel_rfl) (by kernel_rfl) rfl (go_files_Disk_Calls.walk (Γ1 := Γ1) (p0 := y245.2.1) (hst := hst284) (f1 := f247) (f2 := f248) (f3 := f249) (hf := hy285)) ?_
            rintro _ w285 ⟨z285, rfl, hz285, hst285⟩
            refine ⟨_, rfl, ?_⟩
            replace f23 := f23.mono hz285; replace f247 := f247.mono hz285; replace f248 := f248.mono hz285; replace f249 := f249.mono hz285; replace hA271 := hA271.mono hz285
            replace hy284_0 := hy284_0.trans hz285
            replace hy284_1 := hy284_1.trans hz285
            replace hy284_2 := hy284_2.trans hz285
            replace hz284 := hz284.trans hz285
            refine Ops.on rfl ?_
            refine Ops.ex (Ex.move rfl) rfl rfl rfl ?_
            refine Ops.on rfl ?_
            refine Ops.ex (Ex.eqlI rfl rfl) rfl rfl rfl ?_
            refine Ops.on rfl ?_
            refine Ops.ex (Ex.move rfl) rfl rfl rfl ?_
            refine Ops.on rfl ?_
            refine Ops.ex (Ex.eqlI rfl rfl) rfl rfl rfl ?_
            refine Ops.on rfl ?_
            refine Ops.ex (Ex.move rfl) rfl rfl rfl ?_
            refine Ops.case 86 rfl (fun hc => ?_) (fun hc => ?_)
            · replace hf := ifT (dec_T hc) hf
              refine Ops.off rfl rfl ?_
              refine Ops.off rfl rfl ?_
              refine Ops.on rfl ?_
              refine Ops.ex (Ex.pickT rfl rfl) rfl rfl rfl ?_
              refine Ops.on rfl ?_
              refine Ops.ex (Ex.eqlBo rfl rfl Try.underlying4) rfl rfl rfl ?_
              refine Ops.ex (Ex.pickT rfl rfl) rfl rfl rfl ?_
              refine Ops.nil ?_
              refine Run.cond rfl (fun hc => ?_) (fun hc => ?_)
              · replace hf := ifT (dec_T hc) hf
                refine Run.seq ?_
                refine Run.region ?_
                refine Ops.ex (Ex.assign rfl) rfl rfl rfl ?_
                refine Ops.nil ?_
                obtain rfl := Option.some.inj hf
                exact Run.retV [vb false] rfl ⟨rfl, trivial⟩ ⟨z285, rfl, hy284_0, (St.forgetT (St.forget (St.forget (St.forget (St.forget hst285 4) 3) 2) 1))⟩
              · replace hf := ifF (dec_F hc) hf
                refine Run.skip ?_
                refine Run.endBlk ?_
                refine Run.region ?_
                refine Ops.ex (Ex.add rfl rfl) rfl rfl rfl ?_
                refine Ops.ex (Ex.move rfl) rfl rfl rfl ?_
                refine Ops.nil ?_
                refine Run.re 26 rfl (congrArg vi (wr_succ' hl24 hc24)) ?_
                exact Run.sub (by exact subB_spec ⟨rfl, rfl, rfl, rfl, trivial⟩) (Run.stop ⟨l23.length - (i24 + 1), by omega, i24 + 1, y245.2.2, y245.2.1.now_, y245.2.1.safe_, y245.2.1.wait_, y245.2.1.room_, y245.2.1.left_, y245.2.1.down_, y245.2.1.calls_, Ha271, gm247, E247, c247, gm248, E248, c248, A249, c249, d249, Γ1, z285, rfl, by omega, (hnxb24 _).symm.trans hf, rfl, hy284_1, hy284_0, hA271, f247, f248, f249, hp6, (St.up (St.up (St.up (St.up (St.up hst285 1 rfl) 4 rfl) 4 rfl) 4 rfl) 4 rfl)⟩)
            · replace hf := ifF (dec_F hc) hf
              refine Ops.on rfl ?_
              refine Ops.ex (Ex.move rfl) rfl rfl rfl ?_
              refine Ops.on rfl ?_
              refine Ops.ex (Ex.eqlI rfl rfl) rfl rfl rfl ?_
              refine Ops.on rfl ?_
              refine Ops.ex (Ex.pickF rfl rfl) rfl rfl rfl ?_
              refine Ops.on rfl ?_
              refine Ops.ex (Ex.eqlBo rfl rfl Try.underlying4) rfl rfl rfl ?_
              refine Ops.ex (Ex.pickT rfl rfl) rfl rfl rfl ?_
              refine Ops.nil ?_
              refine Run.cond rfl (fun hc => ?_) (fun hc => ?_)
              · replace hf := ifT (dec_T hc) hf
                refine Run.seq ?_
                refine Run.region ?_
                refine Ops.ex (Ex.assign rfl) rfl rfl rfl ?_
                refine Ops.nil ?_
                obtain rfl := Option.some.inj hf
                exact Run.retV [vb false] rfl ⟨rfl, trivial⟩ ⟨z285, rfl, hy284_0, (St.forgetT (St.forget (St.forget (St.forget (St.forget hst285 4) 3) 2) 1))⟩
              · replace hf := ifF (dec_F hc) hf
                refine Run.skip ?_
                refine Run.endBlk ?_
                refine Run.region ?_
                refine Ops.ex (Ex.add rfl rfl) rfl rfl rfl ?_
                refine Ops.ex (Ex.move rfl) rfl rfl rfl ?_
                refine Ops.nil ?_
                refine Run.re 26 rfl (congrArg vi (wr_succ' hl24 hc24)) ?_
                exact Run.sub (by exact subB_spec ⟨rfl, rfl, rfl, rfl, trivial⟩) (Run.stop ⟨l23.length - (i24 + 1), by omega, i24 + 1, y245.2.2, y245.2.1.now_, y245.2.1.safe_, y245.2.1.wait_, y245.2.1.room_, y245.2.1.left_, y245.2.1.down_, y245.2.1.calls_, Ha271, gm247, E247, c247, gm248, E248, c248, A249, c249, d249, Γ1, z285, rfl, by omega, (hnxb24 _).symm.trans hf, rfl, hy284_1, hy284_0, hA271, f247, f248, f249, hp6, (St.up (St.up (St.up (St.up (St.up hst285 1 rfl) 4 rfl) 4 rfl) 4 rfl) 4 rfl)⟩)
          · replace hf := ifTb (bn_F hc) hf
            refine Ops.off rfl rfl ?_
            refine Ops.off rfl rfl ?_
            refine Ops.off rfl rfl ?_
            refine Ops.off rfl rfl ?_
            refine Ops.off rfl rfl ?_
            refine Ops.off rfl rfl ?_
            refine Ops.off rfl rfl ?_
            refine Ops.offU rfl rfl ?_
            refine Ops.offU rfl rfl ?_
            refine Ops.off rfl rfl ?_
            refine Ops.off rfl rfl ?_
            refine Ops.ex (Ex.pickF rfl rfl) rfl rfl rfl ?_
            refine Ops.nil ?_
            refine Run.condF rfl rfl ?_
            refine Run.skip ?_
            refine Run.endBlk ?_
            refine Run.region ?_
            refine Ops.ex (Ex.add rfl rfl) rfl rfl rfl ?_
            refine Ops.ex (Ex.move rfl) rfl rfl rfl ?_
            refine Ops.nil ?_
            refine Run.re 26 rfl (congrArg vi (wr_succ' hl24 hc24)) ?_
            exact Run.sub (by exact subB_spec ⟨rfl, rfl, rfl, rfl, trivial⟩) (Run.stop ⟨l23.length - (i24 + 1), by omega, i24 + 1, y245.2.2, y245.2.1.now_, y245.2.1.safe_, y245.2.1.wait_, y245.2.1.room_, y245.2.1.left_, y245.2.1.down_, y245.2.1.calls_, Ha271, gm247, E247, c247, gm248, E248, c248, A249, c249, d249, Γ1, z270, rfl, by omega, (hnxb24 _).symm.trans hf, rfl, hy284_1, hy284_0, hA271, f247, f248, f249, hp6, (St.up (St.up (St.up (St.up (St.up hst284 1 rfl) 4 rfl) 4 rfl) 4 rfl) 4 rfl)⟩)
    · replace hf := forL_out hf (nlt_of_dec hc)
      try dsimp only at hf
      refine Run.exit _ rfl ?_
      refine Run.seq ?_
      refine Run.region ?_
      refine Ops.ex (Ex.move rfl) rfl rfl rfl ?_
      obtain ⟨y287, hy287, hf⟩ := bnd hf
      refine Ops.call rfl rfl Try.func20 (by kernel_rfl) (by kernel_rfl) rfl (go_files_Disk_Restart.walk (Γ1 := Γ1) (p0 := (⟨mp217, mp218, l219, x220, x221, b222, x223⟩ : filesDisk)) (p1 := 3) (p2 := 3) (ar1 := ar216) (hst := (St.up (St.up (St.up (St.up (St.up hst225 3 rfl) 3 rfl) 3 rfl) 4 rfl) 4 rfl)) (f1 := f217) (f2 := f218) (f3 := f219) (hA1 := hA216) (Ha1 := Ha216) (hf := hy287)) ?_
      rintro _ w287 ⟨z287, gm288, E288, c288, gm289, E289, c289, A290, c290, d290, Ha295, rfl, hz287, f288, f289, f290, hA295, hst287⟩
      replace hst287 : Ht w0 (frz z287 :: (blk g7 [.map (some gm288), .map (some gm289), .slice A290 y287.1.wait_.length c290, vi y287.1.room_, vi y287.1.left_, vb y287.1.down_, vi y287.1.calls_] 68) :: (ob gm288 (.map E288 c288)) :: (ob gm289 (.map E289 c289)) :: (orow 78 1 (.slice A290 y287.1.wait_.length c290) y287.1.wait_.length d290) :: (Ha295 ++ X)) _ := hst287
      refine ⟨_, rfl, ?_⟩
      replace f23 := f23.mono hz287
      replace hy225_0 := hy225_0.trans hz287
      replace hz225 := hz225.trans hz287
      refine Ops.nil ?_
      refine Run.seq ?_
      refine Run.region ?_
      refine Ops.ex (Ex.move rfl) rfl rfl rfl ?_
      obtain ⟨y296, hy296, hf⟩ := bnd hf
      refine Ops.call rfl rfl Try.func29 (by kernel_rfl) (by kernel_rfl) rfl (go_files_Disk_Down.walk (Γ1 := Γ1) (p0 := y287.1) (hst := hst287) (f1 := f288) (f2 := f289) (f3 := f290) (hf := hy296)) ?_
      rintro _ w296 ⟨z296, rfl, hz296, hst296⟩
      refine ⟨_, rfl, ?_⟩
      replace f23 := f23.mono hz296; replace f288 := f288.mono hz296; replace f289 := f289.mono hz296; replace f290 := f290.mono hz296; replace hA295 := hA295.mono hz296
      replace hy225_0 := hy225_0.trans hz296
      replace hz225 := hz225.trans hz296
      refine Ops.ex (Ex.not rfl) rfl rfl rfl ?_
      refine Ops.ex (Ex.move rfl) rfl rfl rfl ?_
      refine Ops.case 98 rfl (fun hc => ?_) (fun hc => ?_)
      · replace hf := ifFb (bn_T hc) hf
        refine Ops.on rfl ?_
        refine Ops.ex (Ex.move rfl) rfl rfl rfl ?_
        refine Ops.on rfl ?_
        obtain ⟨y298, hy298, hf⟩ := bnd hf
        refine Ops.call rfl rfl Try.func13 (by kernel_rfl) (by kernel_rfl) rfl (go_files_Disk_Create.walk (Γ1 := Γ1) (p0 := y287.1) (p1 := [110, 101, 119]) (ar1 := y287.2) (hst := hst296) (f1 := f288) (f2 := f289) (f3 := f290) (hA1 := hA295) (Ha1 := Ha295) (hf := hy298)) ?_
        rintro _ w298 ⟨z298, gm300, E300, c300, gm301, E301, c301, A302, c302, d302, Ha307, Γ1, rfl, hz298, f300, f301, f302, hA307, hG1_308, hst298⟩
        replace hst298 : Ht w0 (frz z298 :: (blk g7 [.map (some gm300), .map (some gm301), .slice A302 y298.2.1.wait_.length c302, vi y298.2.1.room_, vi y298.2.1.left_, vb y298.2.1.down_, vi y298.2.1.calls_] 68) :: (ob gm300 (.map E300 c300)) :: (ob gm301 (.map E301 c301)) :: (orow 78 1 (.slice A302 y298.2.1.wait_.length c302) y298.2.1.wait_.length d302) :: (Ha307 ++ X)) _ := hst298
        refine ⟨_, rfl, ?_⟩
        replace f23 := f23.mono hz298
        replace hy225_0 := hy225_0.trans hz298
        replace hz225 := hz225.trans hz298
        replace hp6 := hp6.trans hG1_308
        refine Ops.on rfl ?_
        refine Ops.ex (Ex.neqI rfl rfl) rfl rfl rfl ?_
        refine Ops.ex (Ex.pickT rfl rfl) rfl rfl rfl ?_
        refine Ops.ex (Ex.assign rfl) rfl rfl rfl ?_
        refine Ops.nil ?_
        obtain rfl := Option.some.inj hf
        exact Run.retV [vb (!(decide (y298.1 = 7)))] rfl ⟨rfl, trivial⟩ ⟨z298, rfl, hy225_0, (St.forgetT (St.forget (St.forget (St.forget (St.forget hst298 4) 3) 2) 1))⟩
      · replace hf := ifTb (bn_F hc) hf
        refine Ops.off rfl rfl ?_
        refine Ops.off rfl rfl ?_
        refine Ops.off rfl rfl ?_
        refine Ops.ex (Ex.pickF rfl rfl) rfl rfl rfl ?_
        refine Ops.ex (Ex.assign rfl) rfl rfl rfl ?_
        refine Ops.nil ?_
        obtain rfl := Option.some.inj hf
        exact Run.retV [vb false] rfl ⟨rfl, trivial⟩ ⟨z296, rfl, hy225_0, (St.forgetT (St.forget (St.forget (St.forget (St.forget hst296 4) 3) 2) 1))⟩
end
end Go.Proofs.Ytbonfgnmipmmbaa.F4
