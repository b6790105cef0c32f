/- Files: FilesScript. -/
import Derived.Test.YtbonfgnmipmmbaaF7
namespace Go.Proofs.Ytbonfgnmipmmbaa.F8
open Go Go.RowKit Go.Proofs.Ytbonfgnmipmmbaa.Sx Go.Proofs.Ytbonfgnmipmmbaa.F1 Go.Proofs.Ytbonfgnmipmmbaa.F2 Go.Proofs.Ytbonfgnmipmmbaa.F3 Go.Proofs.Ytbonfgnmipmmbaa.F4 Go.Proofs.Ytbonfgnmipmmbaa.F5 Go.Proofs.Ytbonfgnmipmmbaa.F6 Go.Proofs.Ytbonfgnmipmmbaa.F7
set_option linter.unusedVariables false
set_option linter.unusedSimpArgs false
noncomputable section
theorem zr60 : (Try.prog.info? 60).map (·.zero) = some (some (.agg #[.map none, .map none, .slice none 0 0, .slice none 0 0, .int .i64 0, .int .i64 0, .bool false, .int .i64 0])) := by kernel_rfl
theorem pl60 {fs : Array Field} (h : Try.prog.underlying 60 = some (.struct fs)) (w : World) : (fs.mapM fun f => do pure (f.offset, ← sizeOf f.type) : Sem (Array (Nat × Nat))).run Try.prog w = .ok #[(0, 1), (1, 1), (2, 1), (3, 1), (4, 1), (5, 1), (6, 1), (7, 1)] w := by
  rw [Try.underlying60] at h
  cases h
  kernel_rfl
def go_law04_FilesScript.b2 (ar656 : List law04file) (mp657 : Mp (Option Nat)) (mp658 : Mp (Option Nat)) (l659 : List (List fileschange)) (x660 : Int) (x661 : Int) (b662 : Bool) (x663 : Int) (mp664 : Mp (Option Nat)) (b670 : Bool) (i745 : Nat) (a745 : Str) : (Str × List filesfile) → (Str × List filesfile → Option Bool) → Option Bool :=
  fun (s801, ar802) nxb745 => (go_files_Disk_Read (⟨mp657, mp658, l659, x660, x661, b662, x663⟩ : filesDisk) a745 ar802).bind fun y809 => if ltT a745 s801 || decide (a745 = s801) then (some false) else (if ((mget mp664 a745).getD none) = none then (some false) else (if b670 then (if y809.2.1 = 7 then (if b670 then (nxb745 (a745, y809.2.2)) else (if y809.2.1 = 0 then ((((mget mp664 a745).getD none)).bind fun i815 => (ar656[i815]?).bind fun y815 => if y809.1 = y815.b_ then (nxb745 (a745, y809.2.2)) else (some false)) else (some false))) else (some false)) else (if b670 then (nxb745 (a745, y809.2.2)) else (if y809.2.1 = 0 then ((((mget mp664 a745).getD none)).bind fun i820 => (ar656[i820]?).bind fun y820 => if y809.1 = y820.b_ then (nxb745 (a745, y809.2.2)) else (some false)) else (some false)))))
def go_law04_FilesScript.j1 (nxb20 : (List filesfile × List law04file × Mp (Option Nat) × Mp (Option Nat) × List (List fileschange) × Int × Int × Bool × Int × Mp (Option Nat) × Mp (Option Nat) × List (List Str) × List (List (Option Nat)) × Int × Int × Bool × Int) → Option Bool) (ar655 : List filesfile) (ar656 : List law04file) (mp657 : Mp (Option Nat)) (mp658 : Mp (Option Nat)) (l659 : List (List fileschange)) (x660 : Int) (x661 : Int) (b662 : Bool) (x663 : Int) (mp664 : Mp (Option Nat)) (mp665 : Mp (Option Nat)) (l666 : List (List Str)) (l667 : List (List (Option Nat))) (x668 : Int) (x669 : Int) (b670 : Bool) (x671 : Int) : Option Bool :=
  (go_files_Disk_Down (⟨mp657, mp658, l659, x660, x661, b662, x663⟩ : filesDisk)).bind fun y731 => if y731 = b670 then ((go_files_Disk_Calls (⟨mp657, mp658, l659, x660, x661, b662, x663⟩ : filesDisk)).bind fun y733 => if y733 = x671 then ((go_files_Disk_Used (⟨mp657, mp658, l659, x660, x661, b662, x663⟩ : filesDisk) ar655).bind fun y735 => (go_law04_Model_used (⟨mp664, mp665, l666, l667, x668, x669, b670, x671⟩ : law04Model) ar656).bind fun y738 => if y735 = y738 then ((go_files_Disk_Names (⟨mp657, mp658, l659, x660, x661, b662, x663⟩ : filesDisk)).bind fun y741 => if (y741.length : Int) = (mp664.length : Int) then ((go_files_Disk_Names (⟨mp657, mp658, l659, x660, x661, b662, x663⟩ : filesDisk)).bind fun y743 => forL (go_law04_FilesScript.b2 ar656 mp657 mp658 l659 x660 x661 b662 x663 mp664 b670) (fun (s801, ar802) => nxb20 (ar802, ar656, mp657, mp658, l659, x660, x661, b662, x663, mp664, mp665, l666, l667, x668, x669, b670, x671)) 0 y743 ([], ar655)) else (some false)) else (some false)) else (some false)) else (some false)
def go_law04_FilesScript.b1 (i20 : Nat) (a20 : law04Act) : (List filesfile × List law04file × Mp (Option Nat) × Mp (Option Nat) × List (List fileschange) × Int × Int × Bool × Int × Mp (Option Nat) × Mp (Option Nat) × List (List Str) × List (List (Option Nat)) × Int × Int × Bool × Int) → (List filesfile × List law04file × Mp (Option Nat) × Mp (Option Nat) × List (List fileschange) × Int × Int × Bool × Int × Mp (Option Nat) × Mp (Option Nat) × List (List Str) × List (List (Option Nat)) × Int × Int × Bool × Int → Option Bool) → Option Bool :=
  fun (ar562, ar563, mp564, mp565, l566, x567, x568, b569, x570, mp571, mp572, l573, l574, x575, x576, b577, x578) nxb20 => (cutI a20.Bytes 0 (min (a20.Bytes.length : Int) 40)).bind fun l594 => if 240 ≤ a20.Op then ((go_files_Disk_Arm (⟨mp564, mp565, l566, x567, x568, b569, x570⟩ : filesDisk) (Int.tmod a20.N.toInt 20)).bind fun y674 => go_law04_FilesScript.j1 nxb20 ar562 ar563 y674.now_ y674.safe_ y674.wait_ y674.room_ y674.left_ y674.down_ y674.calls_ mp571 mp572 l573 l574 x575 (max (-1) (Int.tmod a20.N.toInt 20)) b577 x578) else (if 225 ≤ a20.Op then ((go_files_Disk_Restart (⟨mp564, mp565, l566, x567, x568, b569, x570⟩ : filesDisk) (wr ((Int.tmod (a20.To.toNat : Int) 9) - 1)) (Int.tmod a20.N.toInt 60) ar562).bind fun y683 => (go_law04_Model_restart (⟨mp571, mp572, l573, l574, x575, x576, b577, x578⟩ : law04Model) (wr ((Int.tmod (a20.To.toNat : Int) 9) - 1)) (Int.tmod a20.N.toInt 60) ar563).bind fun y692 => go_law04_FilesScript.j1 nxb20 y683.2 y692.2 y683.1.now_ y683.1.safe_ y683.1.wait_ y683.1.room_ y683.1.left_ y683.1.down_ y683.1.calls_ y692.1.now_ y692.1.kept_ y692.1.wait_ y692.1.files_ y692.1.room_ y692.1.stop_ y692.1.down_ y692.1.calls_) else ((go_law04_Do (⟨mp564, mp565, l566, x567, x568, b569, x570⟩ : filesDisk) a20 l594 ar562).bind fun y703 => (go_law04_Model_do (⟨mp571, mp572, l573, l574, x575, x576, b577, x578⟩ : law04Model) a20 l594 ar563).bind fun y714 => if y703.1 = y714.1 then (go_law04_FilesScript.j1 nxb20 y703.2.2 y714.2.2 y703.2.1.now_ y703.2.1.safe_ y703.2.1.wait_ y703.2.1.room_ y703.2.1.left_ y703.2.1.down_ y703.2.1.calls_ y714.2.1.now_ y714.2.1.kept_ y714.2.1.wait_ y714.2.1.files_ y714.2.1.room_ y714.2.1.stop_ y714.2.1.down_ y714.2.1.calls_) else (some false)))
def go_law04_FilesScript (p0 : List law04Act) (p1 : UInt8) : Option Bool :=
  (go_law04_awake).bind fun y5 => if y5 then ((go_files_Of (wr ((p1.toNat : Int) * 4))).bind fun y7 => (cutI p0 0 (min (p0.length : Int) 150)).bind fun l19 => forL (go_law04_FilesScript.b1) (fun (ar562, ar563, mp564, mp565, l566, x567, x568, b569, x570, mp571, mp572, l573, l574, x575, x576, b577, x578) => some true) 0 l19 (([] : List filesfile), ([] : List law04file), y7.now_, y7.safe_, y7.wait_, y7.room_, y7.left_, y7.down_, y7.calls_, [], [], [], [], wr ((p1.toNat : Int) * 4), (-1), false, 0)) else (some false)
set_option maxRecDepth 100000 in
set_option maxHeartbeats 4000000 in
theorem go_law04_FilesScript.walk {w0 w : World} {X : List Res} {z0 : Zp} {p0 : List law04Act} {A1 : Option Addr} {c1 : Nat} {p1 : UInt8} {r : Bool} (hst : Ht w0 (frz z0 :: X) w) (f1 : Sl tlaw04Act z0 A1 c1 p0) (hf : go_law04_FilesScript p0 p1 = some r) :
    Calls Try.prog 10 #[.slice A1 p0.length c1, vu8 p1] w fun e w' => ∃ (z' : Zp), e = .returned (vb r) ∧ Le z0 z' ∧ Ht w0 (frz z' :: X) w' := by
  refine calls_np Try.func10 rfl rfl ?_
  have hle0 := Le.refl z0
  unfold go_law04_FilesScript at hf
  obtain ⟨Γ1, hΓ3⟩ : ∃ L : List Nat, L = [] := ⟨_, rfl⟩
  have hA3 : Ar1 z0 Γ1 [] [] := ArL.nil _ _ hΓ3
  have hp3 := List.prefix_rfl (l := Γ1)
  have hst3 : Ht w0 (frz z0 :: ([] ++ X)) _ := hst
  obtain ⟨Γ2, hΓ4⟩ : ∃ L : List Nat, L = [] := ⟨_, rfl⟩
  have hA4 : Ar2 z0 Γ2 [] [] := ArL.nil _ _ hΓ4
  have hp4 := List.prefix_rfl (l := Γ2)
  have hst4 : Ht w0 (frz z0 :: ([] ++ ([] ++ X))) _ := hst3
  refine Run.seq ?_
  refine Run.region ?_
  refine Ops.ex (Ex.assign rfl) rfl rfl rfl ?_
  refine Ops.nil ?_
  refine Run.seq ?_
  refine Run.seq ?_
  refine Run.region ?_
  obtain ⟨y5, hy5, hf⟩ := bnd hf
  refine Ops.call rfl rfl Try.func11 (by kernel_rfl) (by kernel_rfl) rfl (go_law04_awake.walk (hst := hst4) (hf := hy5)) ?_
  rintro _ w5 ⟨z5, rfl, hz5, hst5⟩
  refine ⟨_, rfl, ?_⟩
  replace f1 := f1.mono hz5; replace hA3 := hA3.mono hz5; replace hA4 := hA4.mono hz5
  replace hle0 := hle0.trans hz5
  refine Ops.ex (Ex.not rfl) rfl rfl rfl ?_
  refine Ops.nil ?_
  refine Run.cond rfl (fun hc => ?_) (fun hc => ?_)
  · replace hf := ifFb (bn_T hc) hf
    refine Run.seq ?_
    refine Run.region ?_
    refine Ops.ex (Ex.assign rfl) rfl rfl rfl ?_
    refine Ops.nil ?_
    obtain rfl := Option.some.inj hf
    exact Run.retV [vb false] rfl ⟨rfl, trivial⟩ ⟨z5, rfl, hle0, (St.forgetT (St.forgetT hst5))⟩
  · replace hf := ifTb (bn_F hc) hf
    refine Run.skip ?_
    refine Run.seq ?_
    refine Run.region ?_
    refine Ops.ex (Ex.move rfl) rfl rfl rfl ?_
    refine Ops.ex (Ex.cu8 rfl Try.underlying5 Try.underlying3) rfl rfl rfl ?_
    refine Ops.ex (Ex.mul rfl rfl) rfl rfl rfl ?_
    obtain ⟨y7, hy7, hf⟩ := bnd hf
    refine Ops.call rfl rfl Try.func12 (by kernel_rfl) (by kernel_rfl) rfl (go_files_Of.walk (Γ1 := Γ1) (p0 := (wr ((p1.toNat : Int) * 4))) (hst := hst5) (hf := hy7)) ?_
    rintro _ w7 ⟨z7, g8, gm9, E9, c9, gm10, E10, c10, A11, c11, d11, rfl, hz7, f9, f10, f11, hst7⟩
    refine ⟨_, rfl, ?_⟩
    replace f1 := f1.mono hz7; replace hA3 := hA3.mono hz7; replace hA4 := hA4.mono hz7
    replace hle0 := hle0.trans hz7
    refine Ops.ex (Ex.assign rfl) rfl rfl rfl ?_
    refine Ops.nil ?_
    refine Run.seq ?_
    refine Run.region ?_
    refine Ops.mkmap hst7 rfl (fun g16 w16 hst16 => ?_)
    refine Ops.mkmap hst16 rfl (fun g17 w17 hst17 => ?_)
    refine Ops.ex (Ex.move rfl) rfl rfl rfl ?_
    refine Ops.ex (Ex.cu8 rfl Try.underlying5 Try.underlying3) rfl rfl rfl ?_
    refine Ops.ex (Ex.mul rfl rfl) rfl rfl rfl ?_
    refine Ops.ex (Ex.build [.map (some g16), .map (some g17), .slice none 0 0, .slice none 0 0, vi (wr ((p1.toNat : Int) * 4)), vi (-1), vb false, vi 0] rfl Try.underlying60 zr60 (pl60 Try.underlying60) (by kernel_rfl)) rfl rfl rfl ?_
    refine Ops.boxF [.map (some g16), .map (some g17), .slice none 0 0, .slice none 0 0, vi (wr ((p1.toNat : Int) * 4)), vi (-1), vb false, vi 0] hst17 rfl rfl rfl (fun g18 w18 hst18 => ?_)
    refine Ops.ex (Ex.assign rfl) rfl rfl rfl ?_
    refine Ops.nil ?_
    refine Run.seq ?_
    refine Run.seq ?_
    refine Run.region ?_
    refine Ops.ex (Ex.move rfl) rfl rfl rfl ?_
    refine Ops.ex (Ex.move rfl) rfl rfl rfl ?_
    refine Ops.ex (Ex.len' rfl rfl rfl Try.underlying47) rfl rfl rfl ?_
    refine Ops.ex (Ex.min2 rfl rfl rfl) rfl rfl rfl ?_
    obtain ⟨l19, hy19, hf⟩ := bnd hf
    obtain ⟨A19, c19, hA19, hB19, f19⟩ := SlH.sub f1.toH hy19
    replace f19 := f19.toS
    refine Ops.ex (Ex.subA hA19 hB19 hy19 rfl rfl Try.underlying47 sz49 rfl rfl) rfl rfl rfl ?_
    refine Ops.ex (Ex.len' rfl rfl rfl Try.underlying47) rfl rfl rfl ?_
    refine Ops.ex (Ex.move rfl) rfl rfl rfl ?_
    refine Ops.nil ?_
    refine Run.block ?_
    have hc20 := f19.cap
    have hm21 := Le.refl z7
    have hst581 := hst18.row0 52 1
    have hst583 := hst581.row0 86 1
    refine Run.sub (e' := [(5, .pointer (some ⟨g8, 0, none⟩)), (6, .pointer (some ⟨g18, 0, none⟩)), (33, .slice A19 l19.length c19), (34, vi (l19.length : Int)), (35, vi ((0 : Nat) : Int))]) (subB_spec ⟨rfl, rfl, rfl, rfl, rfl, trivial⟩) ?_
    refine Run.loop (fun mb20 => (fun e' w' => ∃ (i20 : Nat) (ar562 : List filesfile) (ar563 : List law04file) (mp564 : Mp (Option Nat)) (mp565 : Mp (Option Nat)) (l566 : List (List fileschange)) (x567 : Int) (x568 : Int) (b569 : Bool) (x570 : Int) (mp571 : Mp (Option Nat)) (mp572 : Mp (Option Nat)) (l573 : List (List Str)) (l574 : List (List (Option Nat))) (x575 : Int) (x576 : Int) (b577 : Bool) (x578 : Int) (Ha562 : List Res) (Ha563 : List Res) (g564 : Nat) (E564 : Array MapEntry) (c564 : Nat) (g565 : Nat) (E565 : Array MapEntry) (c565 : Nat) (A566 : Option Addr) (c566 : Nat) (d566 : List Value) (g571 : Nat) (E571 : Array MapEntry) (c571 : Nat) (g572 : Nat) (E572 : Array MapEntry) (c572 : Nat) (A573 : Option Addr) (c573 : Nat) (d573 : List Value) (A574 : Option Addr) (c574 : Nat) (d574 : List Value) (Γn1 : List Nat) (Γn2 : List Nat) (z561 : Zp), mb20 = l19.length - i20 ∧ i20 ≤ l19.length ∧ forL (go_law04_FilesScript.b1) (fun (ar562, ar563, mp564, mp565, l566, x567, x568, b569, x570, mp571, mp572, l573, l574, x575, x576, b577, x578) => some true) i20 (l19.drop i20) (ar562, ar563, mp564, mp565, l566, x567, x568, b569, x570, mp571, mp572, l573, l574, x575, x576, b577, x578) = some r ∧ e' = [(5, .pointer (some ⟨g8, 0, none⟩)), (6, .pointer (some ⟨g18, 0, none⟩)), (33, .slice A19 l19.length c19), (34, vi (l19.length : Int)), (35, vi (i20 : Int))] ∧ Le z7 z561 ∧ Le z0 z561 ∧ Ar1 z561 Γn1 ar562 Ha562 ∧ Ar2 z561 Γn2 ar563 Ha563 ∧ Mr (tA Γn1) pk1 z561 E564 c564 mp564 ∧ Mr (tA Γn1) pk1 z561 E565 c565 mp565 ∧ Cs (tSl (tfileschange Γn1)) z561 d566 l566 ∧ Mr (tA Γn2) pk1 z561 E571 c571 mp571 ∧ Mr (tA Γn2) pk1 z561 E572 c572 mp572 ∧ Cs (tSl tS) z561 d573 l573 ∧ Cs (tSl (tA Γn2)) z561 d574 l574 ∧ Γ1 <+: Γn1 ∧ Γ2 <+: Γn2 ∧ Ht w0 (frz z561 :: (ob g564 (.map E564 c564)) :: (ob g565 (.map E565 c565)) :: (orow 78 1 (.slice A566 l566.length c566) l566.length d566) :: (ob g571 (.map E571 c571)) :: (ob g572 (.map E572 c572)) :: (orow 52 1 (.slice A573 l573.length c573) l573.length d573) :: (orow 86 1 (.slice A574 l574.length c574) l574.length d574) :: (blk g18 [.map (some g571), .map (some g572), .slice A573 l573.length c573, .slice A574 l574.length c574, vi x575, vi x576, vb b577, vi x578] 60) :: (blk g8 [.map (some g564), .map (some g565), .slice A566 l566.length c566, vi x567, vi x568, vb b569, vi x570] 68) :: (Ha562 ++ (Ha563 ++ X))) w')) l19.length ⟨0, ([] : List filesfile), ([] : List law04file), y7.now_, y7.safe_, y7.wait_, y7.room_, y7.left_, y7.down_, y7.calls_, [], [], [], [], wr ((p1.toNat : Int) * 4), (-1), false, 0, [], [], gm9, E9, c9, gm10, E10, c10, A11, c11, d11, g16, #[], 0, g17, #[], 0, none, 0, [], none, 0, [], Γ1, Γ2, z7, rfl, Nat.zero_le _, hf, rfl, hm21, hle0, hA3, hA4, f9, f10, f11, (Mr.nil (tA Γ2) pk1 _), (Mr.nil (tA Γ2) pk1 _), (Cs.nil _ _), (Cs.nil _ _), hp3, hp4, (St.up (St.up (St.up (St.up (St.up (St.up (St.up (St.up (St.up (St.up hst583 6 rfl) 4 rfl) 3 rfl) 4 rfl) 5 rfl) 6 rfl) 9 rfl) 9 rfl) 9 rfl) 9 rfl)⟩ ?_
    rintro _ e' w585 ⟨i20, ar562, ar563, mp564, mp565, l566, x567, x568, b569, x570, mp571, mp572, l573, l574, x575, x576, b577, x578, Ha562, Ha563, g564, E564, c564, g565, E565, c565, A566, c566, d566, g571, E571, c571, g572, E572, c572, A573, c573, d573, A574, c574, d574, Γ1, Γ2, z561, rfl, hi20, hf, rfl, hz585, hy585_0, hA562, hA563, f564, f565, f566, f571, f572, f573, f574, hG1_579, hG2_580, hst585⟩
    replace f19 := f19.mono hz585
    replace hp3 := hp3.trans hG1_579
    replace hp4 := hp4.trans hG2_580
    refine Run.seq ?_
    refine Run.region ?_
    refine Ops.ex (Ex.lss rfl rfl) rfl rfl rfl ?_
    refine Ops.nil ?_
    refine Run.seq ?_
    refine Run.cond rfl (fun hc => ?_) (fun hc => ?_)
    · have hl20 := lt_of_dec hc
      obtain ⟨a20, nxb20, ha20, hnxb20, hf⟩ := forL_in hf hl20
      unfold go_law04_FilesScript.b1 at hf
      try dsimp only at hf
      refine Run.skip ?_
      refine Run.seq ?_
      refine Run.block ?_
      refine Run.seq ?_
      refine Run.region ?_
      obtain ⟨g591, p591, o591, cs591, hA591, ho591, hr591, f591⟩ := SlH.elem f19.toH (atI_nat ha20)
      obtain ⟨A589, c589, rfl, f589⟩ := hr591
      refine Ops.ex (Ex.ixA hA591 ho591 (atI_nat ha20) rfl rfl rfl Try.underlying47 sz49) rfl rfl rfl ?_
      refine Ops.loadAgg [vu8 a20.Op, vu8 a20.Name, vu8 a20.To, .slice A589 a20.Bytes.length c589, vi16 a20.N] rfl Try.underlying49 rfl sz49 rfl (cells_of_zc rfl (f591.mono hst585.le)) rfl ?_
      refine Ops.allocF [vu8 0, vu8 0, vu8 0, .slice none 0 0, vi16 0] hst585 zr49 rfl rfl (fun g592 w592 hst592 => ?_)
      refine Ops.store 1 [vu8 a20.Op, vu8 a20.Name, vu8 a20.To, .slice A589 a20.Bytes.length c589, vi16 a20.N] hst592 rfl rfl rfl rfl sz49 rfl (by simp [Value.oneCell']) (by simp) (fun w593 hst593 => ?_)
      refine Ops.nil ?_
      refine Run.seq ?_
      refine Run.region ?_
      refine Ops.ex (Ex.fieldAddr rfl Try.underlying49 rfl sz22) rfl rfl rfl ?_
      refine Ops.load rfl Try.underlying22 rfl (hst593.cell (i := 1) rfl rfl) rfl ?_
      refine Ops.ex (Ex.fieldAddr rfl Try.underlying49 rfl sz22) rfl rfl rfl ?_
      refine Ops.load rfl Try.underlying22 rfl (hst593.cell (i := 1) rfl rfl) rfl ?_
      refine Ops.ex (Ex.len' rfl rfl rfl Try.underlying22) rfl rfl rfl ?_
      refine Ops.ex (Ex.min2 rfl rfl rfl) rfl rfl rfl ?_
      obtain ⟨l594, hy594, hf⟩ := bnd hf
      obtain ⟨A594, c594, hA594, hB594, f594⟩ := SlH.sub f589.toH hy594
      replace f594 := f594.toS
      refine Ops.ex (Ex.subA hA594 hB594 hy594 rfl rfl Try.underlying22 sz5 rfl rfl) rfl rfl rfl ?_
      refine Ops.ex (Ex.assign rfl) rfl rfl rfl ?_
      refine Ops.nil ?_
      refine Run.seq ?_
      refine Run.block ?_
      refine Run.seq ?_
      refine Run.region ?_
      refine Ops.ex (Ex.fieldAddr rfl Try.underlying49 rfl sz5) rfl rfl rfl ?_
      refine Ops.load rfl Try.underlying5 rfl (hst593.cell (i := 1) rfl rfl) rfl ?_
      refine Ops.ex (Ex.geq8 (a := a20.Op) (b := 240) rfl rfl) rfl rfl rfl ?_
      refine Ops.ex (Ex.assign rfl) rfl rfl rfl ?_
      refine Ops.nil ?_
      have hm651 := Le.refl z561
      have hp652 := List.prefix_rfl (l := Γ1)
      have hp653 := List.prefix_rfl (l := Γ2)
      apply Run.jn (fun e' w' => ∃ (ar655 : List filesfile) (ar656 : List law04file) (mp657 : Mp (Option Nat)) (mp658 : Mp (Option Nat)) (l659 : List (List fileschange)) (x660 : Int) (x661 : Int) (b662 : Bool) (x663 : Int) (mp664 : Mp (Option Nat)) (mp665 : Mp (Option Nat)) (l666 : List (List Str)) (l667 : List (List (Option Nat))) (x668 : Int) (x669 : Int) (b670 : Bool) (x671 : Int) (Ha655 : List Res) (Ha656 : List Res) (g657 : Nat) (E657 : Array MapEntry) (c657 : Nat) (g658 : Nat) (E658 : Array MapEntry) (c658 : Nat) (A659 : Option Addr) (c659 : Nat) (d659 : List Value) (g664 : Nat) (E664 : Array MapEntry) (c664 : Nat) (g665 : Nat) (E665 : Array MapEntry) (c665 : Nat) (A666 : Option Addr) (c666 : Nat) (d666 : List Value) (A667 : Option Addr) (c667 : Nat) (d667 : List Value) (Γn1 : List Nat) (Γn2 : List Nat) (z654 : Zp), go_law04_FilesScript.j1 nxb20 ar655 ar656 mp657 mp658 l659 x660 x661 b662 x663 mp664 mp665 l666 l667 x668 x669 b670 x671 = some r ∧ e' = [(5, .pointer (some ⟨g8, 0, none⟩)), (6, .pointer (some ⟨g18, 0, none⟩)), (33, .slice A19 l19.length c19), (34, vi (l19.length : Int)), (35, vi (i20 : Int))] ∧ Le z561 z654 ∧ Le z0 z654 ∧ Le z7 z654 ∧ Ar1 z654 Γn1 ar655 Ha655 ∧ Ar2 z654 Γn2 ar656 Ha656 ∧ Mr (tA Γn1) pk1 z654 E657 c657 mp657 ∧ Mr (tA Γn1) pk1 z654 E658 c658 mp658 ∧ Cs (tSl (tfileschange Γn1)) z654 d659 l659 ∧ Mr (tA Γn2) pk1 z654 E664 c664 mp664 ∧ Mr (tA Γn2) pk1 z654 E665 c665 mp665 ∧ Cs (tSl tS) z654 d666 l666 ∧ Cs (tSl (tA Γn2)) z654 d667 l667 ∧ Γ1 <+: Γn1 ∧ Γ2 <+: Γn2 ∧ Ht w0 (frz z654 :: (ob g657 (.map E657 c657)) :: (ob g658 (.map E658 c658)) :: (orow 78 1 (.slice A659 l659.length c659) l659.length d659) :: (ob g664 (.map E664 c664)) :: (ob g665 (.map E665 c665)) :: (orow 52 1 (.slice A666 l666.length c666) l666.length d666) :: (orow 86 1 (.slice A667 l667.length c667) l667.length d667) :: (blk g18 [.map (some g664), .map (some g665), .slice A666 l666.length c666, .slice A667 l667.length c667, vi x668, vi x669, vb b670, vi x671] 60) :: (blk g8 [.map (some g657), .map (some g658), .slice A659 l659.length c659, vi x660, vi x661, vb b662, vi x663] 68) :: (Ha655 ++ (Ha656 ++ X))) w')
      · intro hj595
        refine Run.cond rfl (fun hc => ?_) (fun hc => ?_)
        · replace hf := ifT (dec_T hc) hf
          refine Run.seq ?_
          refine Run.region ?_
          refine Ops.ex (Ex.move rfl) rfl rfl rfl ?_
          refine Ops.ex (Ex.fieldAddr rfl Try.underlying49 rfl sz23) rfl rfl rfl ?_
          refine Ops.load rfl Try.underlying23 rfl (hst593.cell (i := 1) rfl rfl) rfl ?_
          refine Ops.ex (Ex.ci16 rfl Try.underlying23 Try.underlying3) rfl rfl rfl ?_
          refine Ops.ex (Ex.rem rfl rfl (by decide)) rfl rfl rfl ?_
          obtain ⟨y674, hy674, hf⟩ := bnd hf
          refine Ops.call rfl rfl Try.func23 (by kernel_rfl) (by kernel_rfl) rfl (go_files_Disk_Arm.walk (Γ1 := Γ1) (p0 := (⟨mp564, mp565, l566, x567, x568, b569, x570⟩ : filesDisk)) (p1 := (Int.tmod a20.N.toInt 20)) (hst := (St.up (St.up (St.up (St.up (St.up (St.up (St.up (St.up (St.up (St.up (St.up hst593 9 rfl) 9 rfl) 9 rfl) 9 rfl) 9 rfl) 6 rfl) 9 rfl) 9 rfl) 9 rfl) 10 rfl) 10 rfl)) (f1 := f564) (f2 := f565) (f3 := f566) (hf := hy674)) ?_
          rintro _ w674 ⟨z674, gm675, E675, c675, gm676, E676, c676, A677, c677, d677, rfl, hz674, f675, f676, f677, hst674⟩
          refine ⟨_, rfl, ?_⟩
          replace f19 := f19.mono hz674; replace f591 := f591.mono hz674; replace f589 := f589.mono hz674; replace f594 := f594.mono hz674; replace f571 := f571.mono hz674; replace f572 := f572.mono hz674; replace f573 := f573.mono hz674; replace f574 := f574.mono hz674; replace hA562 := hA562.mono hz674; replace hA563 := hA563.mono hz674
          replace hy585_0 := hy585_0.trans hz674
          replace hz585 := hz585.trans hz674
          replace hm651 := hm651.trans hz674
          refine Ops.nil ?_
          refine Run.region ?_
          refine Ops.ex (Ex.move rfl) rfl rfl rfl ?_
          refine Ops.ex (Ex.fieldAddr rfl Try.underlying49 rfl sz23) rfl rfl rfl ?_
          refine Ops.load rfl Try.underlying23 rfl (hst674.cell (i := 5) rfl rfl) rfl ?_
          refine Ops.ex (Ex.ci16 rfl Try.underlying23 Try.underlying3) rfl rfl rfl ?_
          refine Ops.ex (Ex.rem rfl rfl (by decide)) rfl rfl rfl ?_
          refine Ops.ex (Ex.max2 rfl rfl rfl) rfl rfl rfl ?_
          refine Ops.ex (Ex.nilCheck rfl) rfl rfl rfl ?_
          refine Ops.ex (Ex.fieldAddr rfl Try.underlying60 rfl sz3) rfl rfl rfl ?_
          refine Ops.store 10 [vi (max (-1) (Int.tmod a20.N.toInt 20))] hst674 rfl rfl rfl rfl sz3 rfl (by simp [Value.oneCell']) (by simp) (fun w682 hst682 => ?_)
          refine Ops.nil ?_
          exact Run.sub (by exact subB_spec ⟨rfl, rfl, rfl, rfl, rfl, trivial⟩) (hj595 _ _ ⟨ar562, ar563, y674.now_, y674.safe_, y674.wait_, y674.room_, y674.left_, y674.down_, y674.calls_, mp571, mp572, l573, l574, x575, max (-1) (Int.tmod a20.N.toInt 20), b577, x578, Ha562, Ha563, gm675, E675, c675, gm676, E676, c676, A677, c677, d677, g571, E571, c571, g572, E572, c572, A573, c573, d573, A574, c574, d574, Γ1, Γ2, z674, hf, rfl, hm651, hy585_0, hz585, hA562, hA563, f675, f676, f677, f571, f572, f573, f574, hp652, hp653, (St.up (St.up (St.up (St.up (St.up (St.up (St.up (St.up (St.up (St.up (St.forget hst682 5) 1 rfl) 9 rfl) 9 rfl) 9 rfl) 9 rfl) 9 rfl) 9 rfl) 9 rfl) 9 rfl) 9 rfl)⟩)
        · replace hf := ifF (dec_F hc) hf
          refine Run.seq ?_
          refine Run.region ?_
          refine Ops.ex (Ex.fieldAddr rfl Try.underlying49 rfl sz5) rfl rfl rfl ?_
          refine Ops.load rfl Try.underlying5 rfl (hst593.cell (i := 1) rfl rfl) rfl ?_
          refine Ops.ex (Ex.geq8 (a := a20.Op) (b := 225) rfl rfl) rfl rfl rfl ?_
          refine Ops.ex (Ex.assign rfl) rfl rfl rfl ?_
          refine Ops.nil ?_
          refine Run.cond rfl (fun hc => ?_) (fun hc => ?_)
          · replace hf := ifT (dec_T hc) hf
            refine Run.seq ?_
            refine Run.region ?_
            refine Ops.ex (Ex.move rfl) rfl rfl rfl ?_
            refine Ops.ex (Ex.fieldAddr rfl Try.underlying49 rfl sz5) rfl rfl rfl ?_
            refine Ops.load rfl Try.underlying5 rfl (hst593.cell (i := 1) rfl rfl) rfl ?_
            refine Ops.ex (Ex.cu8 rfl Try.underlying5 Try.underlying3) rfl rfl rfl ?_
            refine Ops.ex (Ex.rem rfl rfl (by decide)) rfl rfl rfl ?_
            refine Ops.ex (Ex.sub rfl rfl) rfl rfl rfl ?_
            refine Ops.ex (Ex.fieldAddr rfl Try.underlying49 rfl sz23) rfl rfl rfl ?_
            refine Ops.load rfl Try.underlying23 rfl (hst593.cell (i := 1) rfl rfl) rfl ?_
            refine Ops.ex (Ex.ci16 rfl Try.underlying23 Try.underlying3) rfl rfl rfl ?_
            refine Ops.ex (Ex.rem rfl rfl (by decide)) rfl rfl rfl ?_
            obtain ⟨y683, hy683, hf⟩ := bnd hf
            refine Ops.call rfl rfl Try.func20 (by kernel_rfl) (by kernel_rfl) rfl (go_files_Disk_Restart.walk (Γ1 := Γ1) (p0 := (⟨mp564, mp565, l566, x567, x568, b569, x570⟩ : filesDisk)) (p1 := (wr ((Int.tmod (a20.To.toNat : Int) 9) - 1))) (p2 := (Int.tmod a20.N.toInt 60)) (ar1 := ar562) (hst := (St.mid (B := [blk g8 [.map (some g564), .map (some g565), .slice A566 l566.length c566, vi x567, vi x568, vb b569, vi x570] 68, ob g564 (.map E564 c564), ob g565 (.map E565 c565), orow 78 1 (.slice A566 l566.length c566) l566.length d566]) (M := [blk g592 [vu8 a20.Op, vu8 a20.Name, vu8 a20.To, .slice A589 a20.Bytes.length c589, vi16 a20.N] 49, ob g571 (.map E571 c571), ob g572 (.map E572 c572), orow 52 1 (.slice A573 l573.length c573) l573.length d573, orow 86 1 (.slice A574 l574.length c574) l574.length d574, blk g18 [.map (some g571), .map (some g572), .slice A573 l573.length c573, .slice A574 l574.length c574, vi x575, vi x576, vb b577, vi x578] 60]) (Ha := Ha562) (St.up (St.up (St.up (St.up (St.up (St.up (St.up (St.up (St.up (St.up (St.up hst593 9 rfl) 9 rfl) 9 rfl) 9 rfl) 9 rfl) 6 rfl) 9 rfl) 9 rfl) 9 rfl) 10 rfl) 10 rfl))) (f1 := f564) (f2 := f565) (f3 := f566) (hA1 := hA562) (Ha1 := Ha562) (hf := hy683)) ?_
            rintro _ w683 ⟨z683, gm684, E684, c684, gm685, E685, c685, A686, c686, d686, Ha691, rfl, hz683, f684, f685, f686, hA691, hst683⟩
            replace hst683 : Ht w0 (frz z683 :: (blk g8 [.map (some gm684), .map (some gm685), .slice A686 y683.1.wait_.length c686, vi y683.1.room_, vi y683.1.left_, vb y683.1.down_, vi y683.1.calls_] 68) :: (ob gm684 (.map E684 c684)) :: (ob gm685 (.map E685 c685)) :: (orow 78 1 (.slice A686 y683.1.wait_.length c686) y683.1.wait_.length d686) :: (blk g592 [vu8 a20.Op, vu8 a20.Name, vu8 a20.To, .slice A589 a20.Bytes.length c589, vi16 a20.N] 49) :: (ob g571 (.map E571 c571)) :: (ob g572 (.map E572 c572)) :: (orow 52 1 (.slice A573 l573.length c573) l573.length d573) :: (orow 86 1 (.slice A574 l574.length c574) l574.length d574) :: (blk g18 [.map (some g571), .map (some g572), .slice A573 l573.length c573, .slice A574 l574.length c574, vi x575, vi x576, vb b577, vi x578] 60) :: (Ha691 ++ (Ha563 ++ X))) _ := St.mid (B := [blk g8 [.map (some gm684), .map (some gm685), .slice A686 y683.1.wait_.length c686, vi y683.1.room_, vi y683.1.left_, vb y683.1.down_, vi y683.1.calls_] 68, ob gm684 (.map E684 c684), ob gm685 (.map E685 c685), orow 78 1 (.slice A686 y683.1.wait_.length c686) y683.1.wait_.length d686]) (M := Ha691) (Ha := [blk g592 [vu8 a20.Op, vu8 a20.Name, vu8 a20.To, .slice A589 a20.Bytes.length c589, vi16 a20.N] 49, ob g571 (.map E571 c571), ob g572 (.map E572 c572), orow 52 1 (.slice A573 l573.length c573) l573.length d573, orow 86 1 (.slice A574 l574.length c574) l574.length d574, blk g18 [.map (some g571), .map (some g572), .slice A573 l573.length c573, .slice A574 l574.length c574, vi x575, vi x576, vb b577, vi x578] 60]) hst683
            refine ⟨_, rfl, ?_⟩
            replace f19 := f19.mono hz683; replace f591 := f591.mono hz683; replace f589 := f589.mono hz683; replace f594 := f594.mono hz683; replace f571 := f571.mono hz683; replace f572 := f572.mono hz683; replace f573 := f573.mono hz683; replace f574 := f574.mono hz683; replace hA563 := hA563.mono hz683
            replace hy585_0 := hy585_0.trans hz683
            replace hz585 := hz585.trans hz683
            replace hm651 := hm651.trans hz683
            refine Ops.nil ?_
            refine Run.region ?_
            refine Ops.ex (Ex.move rfl) rfl rfl rfl ?_
            refine Ops.ex (Ex.fieldAddr rfl Try.underlying49 rfl sz5) rfl rfl rfl ?_
            refine Ops.load rfl Try.underlying5 rfl (hst683.cell (i := 5) rfl rfl) rfl ?_
            refine Ops.ex (Ex.cu8 rfl Try.underlying5 Try.underlying3) rfl rfl rfl ?_
            refine Ops.ex (Ex.rem rfl rfl (by decide)) rfl rfl rfl ?_
            refine Ops.ex (Ex.sub rfl rfl) rfl rfl rfl ?_
            refine Ops.ex (Ex.fieldAddr rfl Try.underlying49 rfl sz23) rfl rfl rfl ?_
            refine Ops.load rfl Try.underlying23 rfl (hst683.cell (i := 5) rfl rfl) rfl ?_
            refine Ops.ex (Ex.ci16 rfl Try.underlying23 Try.underlying3) rfl rfl rfl ?_
            refine Ops.ex (Ex.rem rfl rfl (by decide)) rfl rfl rfl ?_
            obtain ⟨y692, hy692, hf⟩ := bnd hf
            refine Ops.call rfl rfl Try.func32 (by kernel_rfl) (by kernel_rfl) rfl (go_law04_Model_restart.walk (Γ2 := Γ2) (p0 := (⟨mp571, mp572, l573, l574, x575, x576, b577, x578⟩ : law04Model)) (p1 := (wr ((Int.tmod (a20.To.toNat : Int) 9) - 1))) (p2 := (Int.tmod a20.N.toInt 60)) (ar2 := ar563) (hst := (St.mid (B := [blk g18 [.map (some g571), .map (some g572), .slice A573 l573.length c573, .slice A574 l574.length c574, vi x575, vi x576, vb b577, vi x578] 60, ob g571 (.map E571 c571), ob g572 (.map E572 c572), orow 52 1 (.slice A573 l573.length c573) l573.length d573, orow 86 1 (.slice A574 l574.length c574) l574.length d574]) (M := ([blk g8 [.map (some gm684), .map (some gm685), .slice A686 y683.1.wait_.length c686, vi y683.1.room_, vi y683.1.left_, vb y683.1.down_, vi y683.1.calls_] 68, ob gm684 (.map E684 c684), ob gm685 (.map E685 c685), orow 78 1 (.slice A686 y683.1.wait_.length c686) y683.1.wait_.length d686, blk g592 [vu8 a20.Op, vu8 a20.Name, vu8 a20.To, .slice A589 a20.Bytes.length c589, vi16 a20.N] 49] ++ Ha691)) (Ha := Ha563) (St.up (St.up (St.up (St.up (St.up (St.up (St.up (St.up (St.up (St.up (St.up hst683 5 rfl) 5 rfl) 5 rfl) 5 rfl) 5 rfl) 9 rfl) 9 rfl) 9 rfl) 9 rfl) 10 rfl) 10 rfl))) (f1 := f571) (f2 := f572) (f3 := f573) (f4 := f574) (hA2 := hA563) (Ha2 := Ha563) (hf := hy692)) ?_
            rintro _ w692 ⟨z692, gm693, E693, c693, gm694, E694, c694, A695, c695, d695, A696, c696, d696, Ha701, rfl, hz692, f693, f694, f695, f696, hA701, hst692⟩
            replace hst692 : Ht w0 (frz z692 :: (blk g18 [.map (some gm693), .map (some gm694), .slice A695 y692.1.wait_.length c695, .slice A696 y692.1.files_.length c696, vi y692.1.room_, vi y692.1.stop_, vb y692.1.down_, vi y692.1.calls_] 60) :: (ob gm693 (.map E693 c693)) :: (ob gm694 (.map E694 c694)) :: (orow 52 1 (.slice A695 y692.1.wait_.length c695) y692.1.wait_.length d695) :: (orow 86 1 (.slice A696 y692.1.files_.length c696) y692.1.files_.length d696) :: (blk g8 [.map (some gm684), .map (some gm685), .slice A686 y683.1.wait_.length c686, vi y683.1.room_, vi y683.1.left_, vb y683.1.down_, vi y683.1.calls_] 68) :: (ob gm684 (.map E684 c684)) :: (ob gm685 (.map E685 c685)) :: (orow 78 1 (.slice A686 y683.1.wait_.length c686) y683.1.wait_.length d686) :: (blk g592 [vu8 a20.Op, vu8 a20.Name, vu8 a20.To, .slice A589 a20.Bytes.length c589, vi16 a20.N] 49) :: (Ha691 ++ (Ha701 ++ X))) _ := St.mid (B := [blk g18 [.map (some gm693), .map (some gm694), .slice A695 y692.1.wait_.length c695, .slice A696 y692.1.files_.length c696, vi y692.1.room_, vi y692.1.stop_, vb y692.1.down_, vi y692.1.calls_] 60, ob gm693 (.map E693 c693), ob gm694 (.map E694 c694), orow 52 1 (.slice A695 y692.1.wait_.length c695) y692.1.wait_.length d695, orow 86 1 (.slice A696 y692.1.files_.length c696) y692.1.files_.length d696]) (M := Ha701) (Ha := ([blk g8 [.map (some gm684), .map (some gm685), .slice A686 y683.1.wait_.length c686, vi y683.1.room_, vi y683.1.left_, vb y683.1.down_, vi y683.1.calls_] 68, ob gm684 (.map E684 c684), ob gm685 (.map E685 c685), orow 78 1 (.slice A686 y683.1.wait_.length c686) y683.1.wait_.length d686, blk g592 [vu8 a20.Op, vu8 a20.Name, vu8 a20.To, .slice A589 a20.Bytes.length c589, vi16 a20.N] 49] ++ Ha691)) hst692
            refine ⟨_, rfl, ?_⟩
            replace f19 := f19.mono hz692; replace f591 := f591.mono hz692; replace f589 := f589.mono hz692; replace f594 := f594.mono hz692; replace f684 := f684.mono hz692; replace f685 := f685.mono hz692; replace f686 := f686.mono hz692; replace hA691 := hA691.mono hz692
            replace hy585_0 := hy585_0.trans hz692
            replace hz585 := hz585.trans hz692
            replace hm651 := hm651.trans hz692
            refine Ops.nil ?_
            exact Run.sub (by exact subB_spec ⟨rfl, rfl, rfl, rfl, rfl, trivial⟩) (hj595 _ _ ⟨y683.2, y692.2, y683.1.now_, y683.1.safe_, y683.1.wait_, y683.1.room_, y683.1.left_, y683.1.down_, y683.1.calls_, y692.1.now_, y692.1.kept_, y692.1.wait_, y692.1.files_, y692.1.room_, y692.1.stop_, y692.1.down_, y692.1.calls_, Ha691, Ha701, gm684, E684, c684, gm685, E685, c685, A686, c686, d686, gm693, E693, c693, gm694, E694, c694, A695, c695, d695, A696, c696, d696, Γ1, Γ2, z692, hf, rfl, hm651, hy585_0, hz585, hA691, hA701, f684, f685, f686, f693, f694, f695, f696, hp652, hp653, (St.up (St.up (St.up (St.up (St.up (St.up (St.up (St.up (St.up (St.up (St.forget hst692 10) 6 rfl) 2 rfl) 6 rfl) 6 rfl) 6 rfl) 6 rfl) 9 rfl) 9 rfl) 9 rfl) 9 rfl)⟩)
          · replace hf := ifF (dec_F hc) hf
            refine Run.seq ?_
            refine Run.drawH [([], fun w => ∃ ζ Y, Le z561 ζ ∧ Ht w0 (frz ζ :: (blk g592 [vu8 a20.Op, vu8 a20.Name, vu8 a20.To, .slice A589 a20.Bytes.length c589, vi16 a20.N] 49) :: Y) w), ([3, 7], fun w => ∃ ζ Y, Le z561 ζ ∧ Ht w0 (frz ζ :: (ob g565 (.map E565 c565)) :: Y) w), ([3, 7], fun w => ∃ ζ Y, Le z561 ζ ∧ Ht w0 (frz ζ :: (blk g8 [.map (some g564), .map (some g565), .slice A566 l566.length c566, vi x567, vi x568, vb b569, vi x570] 68) :: Y) w), ([3, 7], fun w => ∃ ζ Y, Le z561 ζ ∧ Ht w0 (frz ζ :: (ob g564 (.map E564 c564)) :: Y) w), ([3, 7], fun w => ∃ ζ Y, Le z561 ζ ∧ Ht w0 (frz ζ :: (orow 78 1 (.slice A566 l566.length c566) l566.length d566) :: Y) w), ([7], fun w => ∃ ζ Y, Le z561 ζ ∧ Ht w0 (frz ζ :: (orow 52 1 (.slice A573 l573.length c573) l573.length d573) :: Y) w), ([7], fun w => ∃ ζ Y, Le z561 ζ ∧ Ht w0 (frz ζ :: (blk g18 [.map (some g571), .map (some g572), .slice A573 l573.length c573, .slice A574 l574.length c574, vi x575, vi x576, vb b577, vi x578] 60) :: Y) w), ([7], fun w => ∃ ζ Y, Le z561 ζ ∧ Ht w0 (frz ζ :: (orow 86 1 (.slice A574 l574.length c574) l574.length d574) :: Y) w), ([7], fun w => ∃ ζ Y, Le z561 ζ ∧ Ht w0 (frz ζ :: (ob g572 (.map E572 c572)) :: Y) w), ([7], fun w => ∃ ζ Y, Le z561 ζ ∧ Ht w0 (frz ζ :: (ob g571 (.map E571 c571)) :: Y) w)] (by kernel_rfl) hst593 (fun w702 hst702 => ?_)
            have hS0 := (⟨_, _, (Le.refl _), (St.up (St.up hst702 1 rfl) 1 rfl)⟩ : (fun w => ∃ ζ Y, Le z561 ζ ∧ Ht w0 (frz ζ :: (blk g592 [vu8 a20.Op, vu8 a20.Name, vu8 a20.To, .slice A589 a20.Bytes.length c589, vi16 a20.N] 49) :: Y) w) _)
            have hS1 := (⟨_, _, (Le.refl _), (St.up (St.up hst702 3 rfl) 1 rfl)⟩ : (fun w => ∃ ζ Y, Le z561 ζ ∧ Ht w0 (frz ζ :: (ob g565 (.map E565 c565)) :: Y) w) _)
            have hS2 := (⟨_, _, (Le.refl _), (St.up (St.up hst702 10 rfl) 1 rfl)⟩ : (fun w => ∃ ζ Y, Le z561 ζ ∧ Ht w0 (frz ζ :: (blk g8 [.map (some g564), .map (some g565), .slice A566 l566.length c566, vi x567, vi x568, vb b569, vi x570] 68) :: Y) w) _)
            have hS3 := (⟨_, _, (Le.refl _), (St.up (St.up hst702 2 rfl) 1 rfl)⟩ : (fun w => ∃ ζ Y, Le z561 ζ ∧ Ht w0 (frz ζ :: (ob g564 (.map E564 c564)) :: Y) w) _)
            have hS4 := (⟨_, _, (Le.refl _), (St.up (St.up hst702 4 rfl) 1 rfl)⟩ : (fun w => ∃ ζ Y, Le z561 ζ ∧ Ht w0 (frz ζ :: (orow 78 1 (.slice A566 l566.length c566) l566.length d566) :: Y) w) _)
            have hS5 := (⟨_, _, (Le.refl _), (St.up (St.up hst702 7 rfl) 1 rfl)⟩ : (fun w => ∃ ζ Y, Le z561 ζ ∧ Ht w0 (frz ζ :: (orow 52 1 (.slice A573 l573.length c573) l573.length d573) :: Y) w) _)
            have hS6 := (⟨_, _, (Le.refl _), (St.up (St.up hst702 9 rfl) 1 rfl)⟩ : (fun w => ∃ ζ Y, Le z561 ζ ∧ Ht w0 (frz ζ :: (blk g18 [.map (some g571), .map (some g572), .slice A573 l573.length c573, .slice A574 l574.length c574, vi x575, vi x576, vb b577, vi x578] 60) :: Y) w) _)
            have hS7 := (⟨_, _, (Le.refl _), (St.up (St.up hst702 8 rfl) 1 rfl)⟩ : (fun w => ∃ ζ Y, Le z561 ζ ∧ Ht w0 (frz ζ :: (orow 86 1 (.slice A574 l574.length c574) l574.length d574) :: Y) w) _)
            have hS8 := (⟨_, _, (Le.refl _), (St.up (St.up hst702 6 rfl) 1 rfl)⟩ : (fun w => ∃ ζ Y, Le z561 ζ ∧ Ht w0 (frz ζ :: (ob g572 (.map E572 c572)) :: Y) w) _)
            have hS9 := (⟨_, _, (Le.refl _), (St.up (St.up hst702 5 rfl) 1 rfl)⟩ : (fun w => ∃ ζ Y, Le z561 ζ ∧ Ht w0 (frz ζ :: (ob g571 (.map E571 c571)) :: Y) w) _)
            refine Any.takeE 0 rfl rfl rfl rfl (by kernel_rfl) (fun _ _ _ _ _ h => h) ((Ex.move rfl).s) ?_
            refine Any.take 0 1 rfl rfl rfl rfl rfl (by kernel_rfl) (fun _ _ _ _ _ h => h) (ExS.loadAgg [vu8 a20.Op, vu8 a20.Name, vu8 a20.To, .slice A589 a20.Bytes.length c589, vi16 a20.N] rfl Try.underlying49 rfl sz49 rfl (fun w hS => by obtain ⟨_, _, _, hs⟩ := hS; exact hs.cells (i := 1) rfl 0 5)) hS0 ?_
            refine Any.takeE 2 rfl rfl rfl rfl (by kernel_rfl) (fun _ _ _ _ _ h => h) ((Ex.move rfl).s) ?_
            refine Any.takeE 4 rfl rfl rfl rfl (by kernel_rfl) (fun _ _ _ _ _ h => h) ((Ex.move rfl).s) ?_
            refine Any.take 0 5 rfl rfl rfl rfl rfl (by kernel_rfl) (fun _ _ _ _ _ h => h) (ExS.loadAgg [vu8 a20.Op, vu8 a20.Name, vu8 a20.To, .slice A589 a20.Bytes.length c589, vi16 a20.N] rfl Try.underlying49 rfl sz49 rfl (fun w hS => by obtain ⟨_, _, _, hs⟩ := hS; exact hs.cells (i := 1) rfl 0 5)) hS0 ?_
            refine Any.takeE 6 rfl rfl rfl rfl (by kernel_rfl) (fun _ _ _ _ _ h => h) ((Ex.move rfl).s) ?_
            obtain ⟨y703, hy703, hf⟩ := bnd hf
            refine Any.one 3 (by kernel_rfl) rfl rfl (One.of_ops rfl ?_)
            refine Ops.call rfl rfl Try.func30 (by kernel_rfl) (by kernel_rfl) rfl (go_law04_Do.walk (Γ1 := Γ1) (p0 := (⟨mp564, mp565, l566, x567, x568, b569, x570⟩ : filesDisk)) (p1 := a20) (p2 := l594) (ar1 := ar562) (hst := (St.mid (B := [blk g8 [.map (some g564), .map (some g565), .slice A566 l566.length c566, vi x567, vi x568, vb b569, vi x570] 68, ob g564 (.map E564 c564), ob g565 (.map E565 c565), orow 78 1 (.slice A566 l566.length c566) l566.length d566]) (M := [blk g592 [vu8 a20.Op, vu8 a20.Name, vu8 a20.To, .slice A589 a20.Bytes.length c589, vi16 a20.N] 49, ob g571 (.map E571 c571), ob g572 (.map E572 c572), orow 52 1 (.slice A573 l573.length c573) l573.length d573, orow 86 1 (.slice A574 l574.length c574) l574.length d574, blk g18 [.map (some g571), .map (some g572), .slice A573 l573.length c573, .slice A574 l574.length c574, vi x575, vi x576, vb b577, vi x578] 60]) (Ha := Ha562) (St.up (St.up (St.up (St.up (St.up (St.up (St.up (St.up (St.up (St.up (St.up hst702 9 rfl) 9 rfl) 9 rfl) 9 rfl) 9 rfl) 6 rfl) 9 rfl) 9 rfl) 9 rfl) 10 rfl) 10 rfl))) (f1 := f564) (f2 := f565) (f3 := f566) (f11 := f589) (f13 := f594) (hA1 := hA562) (Ha1 := Ha562) (hf := hy703)) ?_
            rintro _ w703 ⟨z703, gm705, E705, c705, gm706, E706, c706, A707, c707, d707, Ha712, Γ1, rfl, hz703, f705, f706, f707, hA712, hG1_713, hst703⟩
            replace hst703 : Ht w0 (frz z703 :: (blk g8 [.map (some gm705), .map (some gm706), .slice A707 y703.2.1.wait_.length c707, vi y703.2.1.room_, vi y703.2.1.left_, vb y703.2.1.down_, vi y703.2.1.calls_] 68) :: (ob gm705 (.map E705 c705)) :: (ob gm706 (.map E706 c706)) :: (orow 78 1 (.slice A707 y703.2.1.wait_.length c707) y703.2.1.wait_.length d707) :: (blk g592 [vu8 a20.Op, vu8 a20.Name, vu8 a20.To, .slice A589 a20.Bytes.length c589, vi16 a20.N] 49) :: (ob g571 (.map E571 c571)) :: (ob g572 (.map E572 c572)) :: (orow 52 1 (.slice A573 l573.length c573) l573.length d573) :: (orow 86 1 (.slice A574 l574.length c574) l574.length d574) :: (blk g18 [.map (some g571), .map (some g572), .slice A573 l573.length c573, .slice A574 l574.length c574, vi x575, vi x576, vb b577, vi x578] 60) :: (Ha712 ++ (Ha563 ++ X))) _ := St.mid (B := [blk g8 [.map (some gm705), .map (some gm706), .slice A707 y703.2.1.wait_.length c707, vi y703.2.1.room_, vi y703.2.1.left_, vb y703.2.1.down_, vi y703.2.1.calls_] 68, ob gm705 (.map E705 c705), ob gm706 (.map E706 c706), orow 78 1 (.slice A707 y703.2.1.wait_.length c707) y703.2.1.wait_.length d707]) (M := Ha712) (Ha := [blk g592 [vu8 a20.Op, vu8 a20.Name, vu8 a20.To, .slice A589 a20.Bytes.length c589, vi16 a20.N] 49, ob g571 (.map E571 c571), ob g572 (.map E572 c572), orow 52 1 (.slice A573 l573.length c573) l573.length d573, orow 86 1 (.slice A574 l574.length c574) l574.length d574, blk g18 [.map (some g571), .map (some g572), .slice A573 l573.length c573, .slice A574 l574.length c574, vi x575, vi x576, vb b577, vi x578] 60]) hst703
            refine ⟨_, rfl, Ops.stop ?_⟩
            replace f19 := f19.mono hz703; replace f591 := f591.mono hz703; replace f589 := f589.mono hz703; replace f594 := f594.mono hz703; replace f571 := f571.mono hz703; replace f572 := f572.mono hz703; replace f573 := f573.mono hz703; replace f574 := f574.mono hz703; replace hA563 := hA563.mono hz703
            replace hy585_0 := hy585_0.trans hz703
            replace hz585 := hz585.trans hz703
            replace hm651 := hm651.trans hz703
            replace hp3 := hp3.trans hG1_713
            replace hp652 := hp652.trans hG1_713
            have hS0 := (⟨_, _, hm651, (St.up (St.up hst703 5 rfl) 1 rfl)⟩ : (fun w => ∃ ζ Y, Le z561 ζ ∧ Ht w0 (frz ζ :: (blk g592 [vu8 a20.Op, vu8 a20.Name, vu8 a20.To, .slice A589 a20.Bytes.length c589, vi16 a20.N] 49) :: Y) w) _)
            have hS5 := (⟨_, _, hm651, (St.up (St.up hst703 8 rfl) 1 rfl)⟩ : (fun w => ∃ ζ Y, Le z561 ζ ∧ Ht w0 (frz ζ :: (orow 52 1 (.slice A573 l573.length c573) l573.length d573) :: Y) w) _)
            have hS6 := (⟨_, _, hm651, (St.up (St.up hst703 10 rfl) 1 rfl)⟩ : (fun w => ∃ ζ Y, Le z561 ζ ∧ Ht w0 (frz ζ :: (blk g18 [.map (some g571), .map (some g572), .slice A573 l573.length c573, .slice A574 l574.length c574, vi x575, vi x576, vb b577, vi x578] 60) :: Y) w) _)
            have hS7 := (⟨_, _, hm651, (St.up (St.up hst703 9 rfl) 1 rfl)⟩ : (fun w => ∃ ζ Y, Le z561 ζ ∧ Ht w0 (frz ζ :: (orow 86 1 (.slice A574 l574.length c574) l574.length d574) :: Y) w) _)
            have hS8 := (⟨_, _, hm651, (St.up (St.up hst703 7 rfl) 1 rfl)⟩ : (fun w => ∃ ζ Y, Le z561 ζ ∧ Ht w0 (frz ζ :: (ob g572 (.map E572 c572)) :: Y) w) _)
            have hS9 := (⟨_, _, hm651, (St.up (St.up hst703 6 rfl) 1 rfl)⟩ : (fun w => ∃ ζ Y, Le z561 ζ ∧ Ht w0 (frz ζ :: (ob g571 (.map E571 c571)) :: Y) w) _)
            refine ⟨⟨.inr (fun _ => hS0), .inl (by decide), .inl (by decide), .inl (by decide), .inl (by decide), .inr (fun _ => hS5), .inr (fun _ => hS6), .inr (fun _ => hS7), .inr (fun _ => hS8), .inr (fun _ => hS9), trivial⟩, ?_⟩
            obtain ⟨y714, hy714, hf⟩ := bnd hf
            refine Any.one 7 (by kernel_rfl) rfl rfl (One.of_ops rfl ?_)
            refine Ops.call rfl rfl Try.func33 (by kernel_rfl) (by kernel_rfl) rfl (go_law04_Model_do.walk (Γ2 := Γ2) (p0 := (⟨mp571, mp572, l573, l574, x575, x576, b577, x578⟩ : law04Model)) (p1 := a20) (p2 := l594) (ar2 := ar563) (hst := (St.mid (B := [blk g18 [.map (some g571), .map (some g572), .slice A573 l573.length c573, .slice A574 l574.length c574, vi x575, vi x576, vb b577, vi x578] 60, ob g571 (.map E571 c571), ob g572 (.map E572 c572), orow 52 1 (.slice A573 l573.length c573) l573.length d573, orow 86 1 (.slice A574 l574.length c574) l574.length d574]) (M := ([blk g8 [.map (some gm705), .map (some gm706), .slice A707 y703.2.1.wait_.length c707, vi y703.2.1.room_, vi y703.2.1.left_, vb y703.2.1.down_, vi y703.2.1.calls_] 68, ob gm705 (.map E705 c705), ob gm706 (.map E706 c706), orow 78 1 (.slice A707 y703.2.1.wait_.length c707) y703.2.1.wait_.length d707, blk g592 [vu8 a20.Op, vu8 a20.Name, vu8 a20.To, .slice A589 a20.Bytes.length c589, vi16 a20.N] 49] ++ Ha712)) (Ha := Ha563) (St.up (St.up (St.up (St.up (St.up (St.up (St.up (St.up (St.up (St.up (St.up hst703 5 rfl) 5 rfl) 5 rfl) 5 rfl) 5 rfl) 9 rfl) 9 rfl) 9 rfl) 9 rfl) 10 rfl) 10 rfl))) (f1 := f571) (f2 := f572) (f3 := f573) (f4 := f574) (f12 := f589) (f14 := f594) (hA2 := hA563) (Ha2 := Ha563) (hf := hy714)) ?_
            rintro _ w714 ⟨z714, gm716, E716, c716, gm717, E717, c717, A718, c718, d718, A719, c719, d719, Ha724, Γ2, rfl, hz714, f716, f717, f718, f719, hA724, hG2_725, hst714⟩
            replace hst714 : Ht w0 (frz z714 :: (blk g18 [.map (some gm716), .map (some gm717), .slice A718 y714.2.1.wait_.length c718, .slice A719 y714.2.1.files_.length c719, vi y714.2.1.room_, vi y714.2.1.stop_, vb y714.2.1.down_, vi y714.2.1.calls_] 60) :: (ob gm716 (.map E716 c716)) :: (ob gm717 (.map E717 c717)) :: (orow 52 1 (.slice A718 y714.2.1.wait_.length c718) y714.2.1.wait_.length d718) :: (orow 86 1 (.slice A719 y714.2.1.files_.length c719) y714.2.1.files_.length d719) :: (blk g8 [.map (some gm705), .map (some gm706), .slice A707 y703.2.1.wait_.length c707, vi y703.2.1.room_, vi y703.2.1.left_, vb y703.2.1.down_, vi y703.2.1.calls_] 68) :: (ob gm705 (.map E705 c705)) :: (ob gm706 (.map E706 c706)) :: (orow 78 1 (.slice A707 y703.2.1.wait_.length c707) y703.2.1.wait_.length d707) :: (blk g592 [vu8 a20.Op, vu8 a20.Name, vu8 a20.To, .slice A589 a20.Bytes.length c589, vi16 a20.N] 49) :: (Ha712 ++ (Ha724 ++ X))) _ := St.mid (B := [blk g18 [.map (some gm716), .map (some gm717), .slice A718 y714.2.1.wait_.length c718, .slice A719 y714.2.1.files_.length c719, vi y714.2.1.room_, vi y714.2.1.stop_, vb y714.2.1.down_, vi y714.2.1.calls_] 60, ob gm716 (.map E716 c716), ob gm717 (.map E717 c717), orow 52 1 (.slice A718 y714.2.1.wait_.length c718) y714.2.1.wait_.length d718, orow 86 1 (.slice A719 y714.2.1.files_.length c719) y714.2.1.files_.length d719]) (M := Ha724) (Ha := ([blk g8 [.map (some gm705), .map (some gm706), .slice A707 y703.2.1.wait_.length c707, vi y703.2.1.room_, vi y703.2.1.left_, vb y703.2.1.down_, vi y703.2.1.calls_] 68, ob gm705 (.map E705 c705), ob gm706 (.map E706 c706), orow 78 1 (.slice A707 y703.2.1.wait_.length c707) y703.2.1.wait_.length d707, blk g592 [vu8 a20.Op, vu8 a20.Name, vu8 a20.To, .slice A589 a20.Bytes.length c589, vi16 a20.N] 49] ++ Ha712)) hst714
            refine ⟨_, rfl, Ops.stop ?_⟩
            replace f19 := f19.mono hz714; replace f591 := f591.mono hz714; replace f589 := f589.mono hz714; replace f594 := f594.mono hz714; replace f705 := f705.mono hz714; replace f706 := f706.mono hz714; replace f707 := f707.mono hz714; replace hA712 := hA712.mono hz714
            replace hy585_0 := hy585_0.trans hz714
            replace hz585 := hz585.trans hz714
            replace hm651 := hm651.trans hz714
            replace hp4 := hp4.trans hG2_725
            replace hp653 := hp653.trans hG2_725
            have hS0 := (⟨_, _, hm651, (St.up (St.up hst714 10 rfl) 1 rfl)⟩ : (fun w => ∃ ζ Y, Le z561 ζ ∧ Ht w0 (frz ζ :: (blk g592 [vu8 a20.Op, vu8 a20.Name, vu8 a20.To, .slice A589 a20.Bytes.length c589, vi16 a20.N] 49) :: Y) w) _)
            refine ⟨⟨.inr (fun _ => hS0), .inl (by decide), .inl (by decide), .inl (by decide), .inl (by decide), .inl (by decide), .inl (by decide), .inl (by decide), .inl (by decide), .inl (by decide), trivial⟩, ?_⟩
            refine Any.takeE 8 rfl rfl rfl rfl (by kernel_rfl) (fun _ _ _ _ _ h => h) ((Ex.neqI rfl rfl).s) ?_
            refine Any.done (by kernel_rfl) ?_
            refine Run.cond rfl (fun hc => ?_) (fun hc => ?_)
            · replace hf := ifF (neq_T hc) hf
              refine Run.seq ?_
              refine Run.region ?_
              refine Ops.ex (Ex.assign rfl) rfl rfl rfl ?_
              refine Ops.nil ?_
              obtain rfl := Option.some.inj hf
              exact Run.retV [vb false] rfl ⟨rfl, trivial⟩ ⟨z714, rfl, hy585_0, (St.forgetT (St.forgetT (St.forget (St.forget (St.forget (St.forget (St.forget (St.forget (St.forget (St.forget (St.forget (St.forget hst714 10) 9) 8) 7) 6) 5) 4) 3) 2) 1)))⟩
            · replace hf := ifT (neq_F hc) hf
              refine Run.skip ?_
              exact Run.sub (by exact subB_spec ⟨rfl, rfl, rfl, rfl, rfl, trivial⟩) (hj595 _ _ ⟨y703.2.2, y714.2.2, y703.2.1.now_, y703.2.1.safe_, y703.2.1.wait_, y703.2.1.room_, y703.2.1.left_, y703.2.1.down_, y703.2.1.calls_, y714.2.1.now_, y714.2.1.kept_, y714.2.1.wait_, y714.2.1.files_, y714.2.1.room_, y714.2.1.stop_, y714.2.1.down_, y714.2.1.calls_, Ha712, Ha724, gm705, E705, c705, gm706, E706, c706, A707, c707, d707, gm716, E716, c716, gm717, E717, c717, A718, c718, d718, A719, c719, d719, Γ1, Γ2, z714, hf, rfl, hm651, hy585_0, hz585, hA712, hA724, f705, f706, f707, f716, f717, f718, f719, hp652, hp653, (St.up (St.up (St.up (St.up (St.up (St.up (St.up (St.up (St.up (St.up (St.forget hst714 10) 6 rfl) 2 rfl) 6 rfl) 6 rfl) 6 rfl) 6 rfl) 9 rfl) 9 rfl) 9 rfl) 9 rfl)⟩)
      · rintro e' w726 ⟨ar655, ar656, mp657, mp658, l659, x660, x661, b662, x663, mp664, mp665, l666, l667, x668, x669, b670, x671, Ha655, Ha656, g657, E657, c657, g658, E658, c658, A659, c659, d659, g664, E664, c664, g665, E665, c665, A666, c666, d666, A667, c667, d667, Γ1, Γ2, z654, hf, rfl, hz726, hy726_0, hy726_1, hA655, hA656, f657, f658, f659, f664, f665, f666, f667, hG1_672, hG2_673, hst726⟩
        replace f19 := f19.mono hz726
        replace hp3 := hp3.trans hG1_672; replace hp652 := hp652.trans hG1_672
        replace hp4 := hp4.trans hG2_673; replace hp653 := hp653.trans hG2_673
        unfold go_law04_FilesScript.j1 at hf
        refine Run.endBlk ?_
        refine Run.seq ?_
        refine Run.seq ?_
        have hm728 := Le.refl z654
        have hp729 := List.prefix_rfl (l := Γ1)
        have hp730 := List.prefix_rfl (l := Γ2)
        refine Run.drawH [([], fun w => ∃ ζ Y, Le z654 ζ ∧ Ht w0 (frz ζ :: (ob g657 (.map E657 c657)) :: (ob g658 (.map E658 c658)) :: (orow 78 1 (.slice A659 l659.length c659) l659.length d659) :: (ob g664 (.map E664 c664)) :: (ob g665 (.map E665 c665)) :: (orow 52 1 (.slice A666 l666.length c666) l666.length d666) :: (orow 86 1 (.slice A667 l667.length c667) l667.length d667) :: (blk g18 [.map (some g664), .map (some g665), .slice A666 l666.length c666, .slice A667 l667.length c667, vi x668, vi x669, vb b670, vi x671] 60) :: (blk g8 [.map (some g657), .map (some g658), .slice A659 l659.length c659, vi x660, vi x661, vb b662, vi x663] 68) :: Y) w)] (by kernel_rfl) hst726 (fun w727 hst727 => ?_)
        have hS0 := (⟨_, _, (Le.refl _), (St.up (St.up (St.up (St.up (St.up (St.up (St.up (St.up (St.up (St.up hst727 9 rfl) 9 rfl) 9 rfl) 9 rfl) 9 rfl) 9 rfl) 9 rfl) 9 rfl) 9 rfl) 9 rfl)⟩ : (fun w => ∃ ζ Y, Le z654 ζ ∧ Ht w0 (frz ζ :: (ob g657 (.map E657 c657)) :: (ob g658 (.map E658 c658)) :: (orow 78 1 (.slice A659 l659.length c659) l659.length d659) :: (ob g664 (.map E664 c664)) :: (ob g665 (.map E665 c665)) :: (orow 52 1 (.slice A666 l666.length c666) l666.length d666) :: (orow 86 1 (.slice A667 l667.length c667) l667.length d667) :: (blk g18 [.map (some g664), .map (some g665), .slice A666 l666.length c666, .slice A667 l667.length c667, vi x668, vi x669, vb b670, vi x671] 60) :: (blk g8 [.map (some g657), .map (some g658), .slice A659 l659.length c659, vi x660, vi x661, vb b662, vi x663] 68) :: Y) w) _)
        refine Any.takeE 0 rfl rfl rfl rfl (by kernel_rfl) (fun _ _ _ _ _ h => h) ((Ex.move rfl).s) ?_
        refine Any.takeE 2 rfl rfl rfl rfl (by kernel_rfl) (fun _ _ _ _ _ h => h) ((Ex.move rfl).s) ?_
        refine Any.takeE 3 rfl rfl rfl rfl (by kernel_rfl) (fun _ _ _ _ _ h => h) ((Ex.nilCheck rfl).s) ?_
        refine Any.takeE 4 rfl rfl rfl rfl (by kernel_rfl) (fun _ _ _ _ _ h => h) ((Ex.fieldAddr rfl Try.underlying60 rfl sz4).s) ?_
        refine Any.take 0 5 rfl rfl rfl rfl rfl (by kernel_rfl) (fun _ _ _ _ _ h => h) (ExS.load rfl Try.underlying4 rfl (fun w hS => by obtain ⟨_, _, _, hs⟩ := hS; exact hs.cell (i := 8) rfl rfl)) hS0 ?_
        obtain ⟨y731, hy731, hf⟩ := bnd hf
        refine Any.one 1 (by kernel_rfl) rfl rfl (One.of_ops rfl ?_)
        refine Ops.call rfl rfl Try.func29 (by kernel_rfl) (by kernel_rfl) rfl (go_files_Disk_Down.walk (Γ1 := Γ1) (p0 := (⟨mp657, mp658, l659, x660, x661, b662, x663⟩ : filesDisk)) (hst := (St.up (St.up (St.up (St.up (St.up (St.up (St.up (St.up (St.up (St.up hst727 8 rfl) 8 rfl) 8 rfl) 8 rfl) 8 rfl) 8 rfl) 8 rfl) 8 rfl) 9 rfl) 9 rfl)) (f1 := f657) (f2 := f658) (f3 := f659) (hf := hy731)) ?_
        rintro _ w731 ⟨z731, rfl, hz731, hst731⟩
        refine ⟨_, rfl, Ops.stop ?_⟩
        replace f19 := f19.mono hz731; replace f657 := f657.mono hz731; replace f658 := f658.mono hz731; replace f659 := f659.mono hz731; replace f664 := f664.mono hz731; replace f665 := f665.mono hz731; replace f666 := f666.mono hz731; replace f667 := f667.mono hz731; replace hA655 := hA655.mono hz731; replace hA656 := hA656.mono hz731
        replace hy726_0 := hy726_0.trans hz731
        replace hy726_1 := hy726_1.trans hz731
        replace hz726 := hz726.trans hz731
        replace hm728 := hm728.trans hz731
        have hS0 := (⟨_, _, hm728, (St.up (St.up (St.up (St.up (St.up (St.up (St.up (St.up (St.up (St.up hst731 1 rfl) 9 rfl) 9 rfl) 9 rfl) 9 rfl) 9 rfl) 9 rfl) 9 rfl) 9 rfl) 9 rfl)⟩ : (fun w => ∃ ζ Y, Le z654 ζ ∧ Ht w0 (frz ζ :: (ob g657 (.map E657 c657)) :: (ob g658 (.map E658 c658)) :: (orow 78 1 (.slice A659 l659.length c659) l659.length d659) :: (ob g664 (.map E664 c664)) :: (ob g665 (.map E665 c665)) :: (orow 52 1 (.slice A666 l666.length c666) l666.length d666) :: (orow 86 1 (.slice A667 l667.length c667) l667.length d667) :: (blk g18 [.map (some g664), .map (some g665), .slice A666 l666.length c666, .slice A667 l667.length c667, vi x668, vi x669, vb b670, vi x671] 60) :: (blk g8 [.map (some g657), .map (some g658), .slice A659 l659.length c659, vi x660, vi x661, vb b662, vi x663] 68) :: Y) w) _)
        refine ⟨⟨.inr (fun _ => hS0), trivial⟩, ?_⟩
        refine Any.takeE 6 rfl rfl rfl rfl (by kernel_rfl) (fun _ _ _ _ _ h => h) ((Ex.neqBo rfl rfl Try.underlying4).s) ?_
        refine Any.takeE 7 rfl rfl rfl rfl (by kernel_rfl) (fun _ _ _ _ _ h => h) ((Ex.move rfl).s) ?_
        refine Any.case 106 rfl (fun hc => ?_) (fun hc => ?_)
        · replace hf := ifF (neq_T hc) hf
          refine Any.pass 8 rfl rfl rfl rfl (by kernel_rfl) (fun _ _ _ _ _ h => h) ?_
          refine Any.pass 9 rfl rfl rfl rfl (by kernel_rfl) (fun _ _ _ _ _ h => h) ?_
          refine Any.pass 10 rfl rfl rfl rfl (by kernel_rfl) (fun _ _ _ _ _ h => h) ?_
          refine Any.pass 11 rfl rfl rfl rfl (by kernel_rfl) (fun _ _ _ _ _ h => h) ?_
          refine Any.pass 12 rfl rfl rfl rfl (by kernel_rfl) (fun _ _ _ _ _ h => h) ?_
          refine Any.pass 13 rfl rfl rfl rfl (by kernel_rfl) (fun _ _ _ _ _ h => h) ?_
          refine Any.pass 14 rfl rfl rfl rfl (by kernel_rfl) (fun _ _ _ _ _ h => h) ?_
          refine Any.takeE 15 rfl rfl rfl rfl (by kernel_rfl) (fun _ _ _ _ _ h => h) ((Ex.pickT rfl rfl).s) ?_
          refine Any.takeE 16 rfl rfl rfl rfl (by kernel_rfl) (fun _ _ _ _ _ h => h) ((Ex.move rfl).s) ?_
          refine Any.pass 17 rfl rfl rfl rfl (by kernel_rfl) (fun _ _ _ _ _ h => h) ?_
          refine Any.pass 18 rfl rfl rfl rfl (by kernel_rfl) (fun _ _ _ _ _ h => h) ?_
          refine Any.pass 19 rfl rfl rfl rfl (by kernel_rfl) (fun _ _ _ _ _ h => h) ?_
          refine Any.pass 20 rfl rfl rfl rfl (by kernel_rfl) (fun _ _ _ _ _ h => h) ?_
          refine Any.pass 21 rfl rfl rfl rfl (by kernel_rfl) (fun _ _ _ _ _ h => h) ?_
          refine Any.takeE 22 rfl rfl rfl rfl (by kernel_rfl) (fun _ _ _ _ _ h => h) ((Ex.pickT rfl rfl).s) ?_
          refine Any.takeE 23 rfl rfl rfl rfl (by kernel_rfl) (fun _ _ _ _ _ h => h) ((Ex.move rfl).s) ?_
          refine Any.pass 24 rfl rfl rfl rfl (by kernel_rfl) (fun _ _ _ _ _ h => h) ?_
          refine Any.pass 25 rfl rfl rfl rfl (by kernel_rfl) (fun _ _ _ _ _ h => h) ?_
          refine Any.pass 26 rfl rfl rfl rfl (by kernel_rfl) (fun _ _ _ _ _ h => h) ?_
          refine Any.pass 27 rfl rfl rfl rfl (by kernel_rfl) (fun _ _ _ _ _ h => h) ?_
          refine Any.pass 28 rfl rfl rfl rfl (by kernel_rfl) (fun _ _ _ _ _ h => h) ?_
          refine Any.pass 29 rfl rfl rfl rfl (by kernel_rfl) (fun _ _ _ _ _ h => h) ?_
          refine Any.pass 30 rfl rfl rfl rfl (by kernel_rfl) (fun _ _ _ _ _ h => h) ?_
          refine Any.pass 31 rfl rfl rfl rfl (by kernel_rfl) (fun _ _ _ _ _ h => h) ?_
          refine Any.pass 32 rfl rfl rfl rfl (by kernel_rfl) (fun _ _ _ _ _ h => h) ?_
          refine Any.takeE 33 rfl rfl rfl rfl (by kernel_rfl) (fun _ _ _ _ _ h => h) ((Ex.pickT rfl rfl).s) ?_
          refine Any.done (by kernel_rfl) ?_
          refine Run.condT rfl rfl ?_
          refine Run.seq ?_
          refine Run.region ?_
          refine Ops.ex (Ex.assign rfl) rfl rfl rfl ?_
          refine Ops.nil ?_
          obtain rfl := Option.some.inj hf
          exact Run.retV [vb false] rfl ⟨rfl, trivial⟩ ⟨z731, rfl, hy726_0, (St.forgetT (St.forgetT (St.forget (St.forget (St.forget (St.forget (St.forget (St.forget (St.forget (St.forget (St.forget hst731 9) 8) 7) 6) 5) 4) 3) 2) 1)))⟩
        · replace hf := ifT (neq_F hc) hf
          refine Any.takeE 8 rfl rfl rfl rfl (by kernel_rfl) (fun _ _ _ _ _ h => h) (ExS.g ((Ex.move rfl).s)) ?_
          refine Any.takeE 10 rfl rfl rfl rfl (by kernel_rfl) (fun _ _ _ _ _ h => h) (ExS.g ((Ex.move rfl).s)) ?_
          refine Any.takeE 11 rfl rfl rfl rfl (by kernel_rfl) (fun _ _ _ _ _ h => h) (ExS.g ((Ex.nilCheck rfl).s)) ?_
          refine Any.takeE 12 rfl rfl rfl rfl (by kernel_rfl) (fun _ _ _ _ _ h => h) (ExS.g ((Ex.fieldAddr rfl Try.underlying60 rfl sz3).s)) ?_
          refine Any.take 0 13 rfl rfl rfl rfl rfl (by kernel_rfl) (fun _ _ _ _ _ h => h) (ExS.g (ExS.load rfl Try.underlying3 rfl (fun w hS => by obtain ⟨_, _, _, hs⟩ := hS; exact hs.cell (i := 8) rfl rfl))) hS0 ?_
          obtain ⟨y733, hy733, hf⟩ := bnd hf
          refine Any.one 9 (by kernel_rfl) rfl rfl (One.g <| One.of_ops rfl ?_)
          refine Ops.call rfl rfl Try.func17 (by kernel_rfl) (by kernel_rfl) rfl (go_files_Disk_Calls.walk (Γ1 := Γ1) (p0 := (⟨mp657, mp658, l659, x660, x661, b662, x663⟩ : filesDisk)) (hst := hst731) (f1 := f657) (f2 := f658) (f3 := f659) (hf := hy733)) ?_
          rintro _ w733 ⟨z733, rfl, hz733, hst733⟩
          refine ⟨_, rfl, Ops.stop ?_⟩
          replace f19 := f19.mono hz733; replace f657 := f657.mono hz733; replace f658 := f658.mono hz733; replace f659 := f659.mono hz733; replace f664 := f664.mono hz733; replace f665 := f665.mono hz733; replace f666 := f666.mono hz733; replace f667 := f667.mono hz733; replace hA655 := hA655.mono hz733; replace hA656 := hA656.mono hz733
          replace hy726_0 := hy726_0.trans hz733
          replace hy726_1 := hy726_1.trans hz733
          replace hz726 := hz726.trans hz733
          replace hm728 := hm728.trans hz733
          have hS0 := (⟨_, _, hm728, (St.up (St.up (St.up (St.up (St.up (St.up (St.up (St.up (St.up (St.up hst733 1 rfl) 9 rfl) 9 rfl) 9 rfl) 9 rfl) 9 rfl) 9 rfl) 9 rfl) 9 rfl) 9 rfl)⟩ : (fun w => ∃ ζ Y, Le z654 ζ ∧ Ht w0 (frz ζ :: (ob g657 (.map E657 c657)) :: (ob g658 (.map E658 c658)) :: (orow 78 1 (.slice A659 l659.length c659) l659.length d659) :: (ob g664 (.map E664 c664)) :: (ob g665 (.map E665 c665)) :: (orow 52 1 (.slice A666 l666.length c666) l666.length d666) :: (orow 86 1 (.slice A667 l667.length c667) l667.length d667) :: (blk g18 [.map (some g664), .map (some g665), .slice A666 l666.length c666, .slice A667 l667.length c667, vi x668, vi x669, vb b670, vi x671] 60) :: (blk g8 [.map (some g657), .map (some g658), .slice A659 l659.length c659, vi x660, vi x661, vb b662, vi x663] 68) :: Y) w) _)
          refine ⟨⟨.inr (fun _ => hS0), trivial⟩, ?_⟩
          refine Any.takeE 14 rfl rfl rfl rfl (by kernel_rfl) (fun _ _ _ _ _ h => h) (ExS.g ((Ex.neqI rfl rfl).s)) ?_
          refine Any.takeE 15 rfl rfl rfl rfl (by kernel_rfl) (fun _ _ _ _ _ h => h) ((Ex.pickF rfl rfl).s) ?_
          refine Any.takeE 16 rfl rfl rfl rfl (by kernel_rfl) (fun _ _ _ _ _ h => h) ((Ex.move rfl).s) ?_
          refine Any.case 115 rfl (fun hc => ?_) (fun hc => ?_)
          · replace hf := ifF (neq_T hc) hf
            refine Any.pass 17 rfl rfl rfl rfl (by kernel_rfl) (fun _ _ _ _ _ h => h) ?_
            refine Any.pass 18 rfl rfl rfl rfl (by kernel_rfl) (fun _ _ _ _ _ h => h) ?_
            refine Any.pass 19 rfl rfl rfl rfl (by kernel_rfl) (fun _ _ _ _ _ h => h) ?_
            refine Any.pass 20 rfl rfl rfl rfl (by kernel_rfl) (fun _ _ _ _ _ h => h) ?_
            refine Any.pass 21 rfl rfl rfl rfl (by kernel_rfl) (fun _ _ _ _ _ h => h) ?_
            refine Any.takeE 22 rfl rfl rfl rfl (by kernel_rfl) (fun _ _ _ _ _ h => h) ((Ex.pickT rfl rfl).s) ?_
            refine Any.takeE 23 rfl rfl rfl rfl (by kernel_rfl) (fun _ _ _ _ _ h => h) ((Ex.move rfl).s) ?_
            refine Any.pass 24 rfl rfl rfl rfl (by kernel_rfl) (fun _ _ _ _ _ h => h) ?_
            refine Any.pass 25 rfl rfl rfl rfl (by kernel_rfl) (fun _ _ _ _ _ h => h) ?_
            refine Any.pass 26 rfl rfl rfl rfl (by kernel_rfl) (fun _ _ _ _ _ h => h) ?_
            refine Any.pass 27 rfl rfl rfl rfl (by kernel_rfl) (fun _ _ _ _ _ h => h) ?_
            refine Any.pass 28 rfl rfl rfl rfl (by kernel_rfl) (fun _ _ _ _ _ h => h) ?_
            refine Any.pass 29 rfl rfl rfl rfl (by kernel_rfl) (fun _ _ _ _ _ h => h) ?_
            refine Any.pass 30 rfl rfl rfl rfl (by kernel_rfl) (fun _ _ _ _ _ h => h) ?_
            refine Any.pass 31 rfl rfl rfl rfl (by kernel_rfl) (fun _ _ _ _ _ h => h) ?_
            refine Any.pass 32 rfl rfl rfl rfl (by kernel_rfl) (fun _ _ _ _ _ h => h) ?_
            refine Any.takeE 33 rfl rfl rfl rfl (by kernel_rfl) (fun _ _ _ _ _ h => h) ((Ex.pickT rfl rfl).s) ?_
            refine Any.done (by kernel_rfl) ?_
            refine Run.condT rfl rfl ?_
            refine Run.seq ?_
            refine Run.region ?_
            refine Ops.ex (Ex.assign rfl) rfl rfl rfl ?_
            refine Ops.nil ?_
            obtain rfl := Option.some.inj hf
            exact Run.retV [vb false] rfl ⟨rfl, trivial⟩ ⟨z733, rfl, hy726_0, (St.forgetT (St.forgetT (St.forget (St.forget (St.forget (St.forget (St.forget (St.forget (St.forget (St.forget (St.forget hst733 9) 8) 7) 6) 5) 4) 3) 2) 1)))⟩
          · replace hf := ifT (neq_F hc) hf
            refine Any.takeE 17 rfl rfl rfl rfl (by kernel_rfl) (fun _ _ _ _ _ h => h) (ExS.g ((Ex.move rfl).s)) ?_
            refine Any.takeE 19 rfl rfl rfl rfl (by kernel_rfl) (fun _ _ _ _ _ h => h) (ExS.g ((Ex.move rfl).s)) ?_
            obtain ⟨y735, hy735, hf⟩ := bnd hf
            refine Any.one 18 (by kernel_rfl) rfl rfl (One.g <| One.of_ops rfl ?_)
            refine Ops.call rfl rfl Try.func21 (by kernel_rfl) (by kernel_rfl) rfl (go_files_Disk_Used.walk (Γ1 := Γ1) (p0 := (⟨mp657, mp658, l659, x660, x661, b662, x663⟩ : filesDisk)) (ar1 := ar655) (hst := (St.mid (B := [blk g8 [.map (some g657), .map (some g658), .slice A659 l659.length c659, vi x660, vi x661, vb b662, vi x663] 68, ob g657 (.map E657 c657), ob g658 (.map E658 c658), orow 78 1 (.slice A659 l659.length c659) l659.length d659]) (M := [ob g664 (.map E664 c664), ob g665 (.map E665 c665), orow 52 1 (.slice A666 l666.length c666) l666.length d666, orow 86 1 (.slice A667 l667.length c667) l667.length d667, blk g18 [.map (some g664), .map (some g665), .slice A666 l666.length c666, .slice A667 l667.length c667, vi x668, vi x669, vb b670, vi x671] 60]) (Ha := Ha655) hst733)) (f1 := f657) (f2 := f658) (f3 := f659) (hA1 := hA655) (Ha1 := Ha655) (hf := hy735)) ?_
            rintro _ w735 ⟨z735, Ha737, rfl, hz735, hA737, hst735⟩
            replace hst735 : Ht w0 (frz z735 :: (blk g8 [.map (some g657), .map (some g658), .slice A659 l659.length c659, vi x660, vi x661, vb b662, vi x663] 68) :: (ob g657 (.map E657 c657)) :: (ob g658 (.map E658 c658)) :: (orow 78 1 (.slice A659 l659.length c659) l659.length d659) :: (ob g664 (.map E664 c664)) :: (ob g665 (.map E665 c665)) :: (orow 52 1 (.slice A666 l666.length c666) l666.length d666) :: (orow 86 1 (.slice A667 l667.length c667) l667.length d667) :: (blk g18 [.map (some g664), .map (some g665), .slice A666 l666.length c666, .slice A667 l667.length c667, vi x668, vi x669, vb b670, vi x671] 60) :: (Ha737 ++ (Ha656 ++ X))) _ := St.mid (B := [blk g8 [.map (some g657), .map (some g658), .slice A659 l659.length c659, vi x660, vi x661, vb b662, vi x663] 68, ob g657 (.map E657 c657), ob g658 (.map E658 c658), orow 78 1 (.slice A659 l659.length c659) l659.length d659]) (M := Ha737) (Ha := [ob g664 (.map E664 c664), ob g665 (.map E665 c665), orow 52 1 (.slice A666 l666.length c666) l666.length d666, orow 86 1 (.slice A667 l667.length c667) l667.length d667, blk g18 [.map (some g664), .map (some g665), .slice A666 l666.length c666, .slice A667 l667.length c667, vi x668, vi x669, vb b670, vi x671] 60]) hst735
            refine ⟨_, rfl, Ops.stop ?_⟩
            replace f19 := f19.mono hz735; replace f657 := f657.mono hz735; replace f658 := f658.mono hz735; replace f659 := f659.mono hz735; replace f664 := f664.mono hz735; replace f665 := f665.mono hz735; replace f666 := f666.mono hz735; replace f667 := f667.mono hz735; replace hA656 := hA656.mono hz735
            replace hy726_0 := hy726_0.trans hz735
            replace hy726_1 := hy726_1.trans hz735
            replace hz726 := hz726.trans hz735
            replace hm728 := hm728.trans hz735
            have hS0 := (⟨_, _, hm728, (St.up (St.up (St.up (St.up (St.up (St.up (St.up (St.up (St.up (St.up hst735 1 rfl) 9 rfl) 9 rfl) 9 rfl) 9 rfl) 9 rfl) 9 rfl) 9 rfl) 9 rfl) 9 rfl)⟩ : (fun w => ∃ ζ Y, Le z654 ζ ∧ Ht w0 (frz ζ :: (ob g657 (.map E657 c657)) :: (ob g658 (.map E658 c658)) :: (orow 78 1 (.slice A659 l659.length c659) l659.length d659) :: (ob g664 (.map E664 c664)) :: (ob g665 (.map E665 c665)) :: (orow 52 1 (.slice A666 l666.length c666) l666.length d666) :: (orow 86 1 (.slice A667 l667.length c667) l667.length d667) :: (blk g18 [.map (some g664), .map (some g665), .slice A666 l666.length c666, .slice A667 l667.length c667, vi x668, vi x669, vb b670, vi x671] 60) :: (blk g8 [.map (some g657), .map (some g658), .slice A659 l659.length c659, vi x660, vi x661, vb b662, vi x663] 68) :: Y) w) _)
            refine ⟨⟨.inr (fun _ => hS0), trivial⟩, ?_⟩
            obtain ⟨y738, hy738, hf⟩ := bnd hf
            refine Any.one 20 (by kernel_rfl) rfl rfl (One.g <| One.of_ops rfl ?_)
            refine Ops.call rfl rfl Try.func34 (by kernel_rfl) (by kernel_rfl) rfl (go_law04_Model_used.walk (Γ2 := Γ2) (p0 := (⟨mp664, mp665, l666, l667, x668, x669, b670, x671⟩ : law04Model)) (ar2 := ar656) (hst := (St.mid (B := [blk g18 [.map (some g664), .map (some g665), .slice A666 l666.length c666, .slice A667 l667.length c667, vi x668, vi x669, vb b670, vi x671] 60, ob g664 (.map E664 c664), ob g665 (.map E665 c665), orow 52 1 (.slice A666 l666.length c666) l666.length d666, orow 86 1 (.slice A667 l667.length c667) l667.length d667]) (M := ([blk g8 [.map (some g657), .map (some g658), .slice A659 l659.length c659, vi x660, vi x661, vb b662, vi x663] 68, ob g657 (.map E657 c657), ob g658 (.map E658 c658), orow 78 1 (.slice A659 l659.length c659) l659.length d659] ++ Ha737)) (Ha := Ha656) (St.up (St.up (St.up (St.up (St.up (St.up (St.up (St.up (St.up (St.up hst735 4 rfl) 4 rfl) 4 rfl) 4 rfl) 8 rfl) 8 rfl) 8 rfl) 8 rfl) 9 rfl) 9 rfl))) (f1 := f664) (f2 := f665) (f3 := f666) (f4 := f667) (hA2 := hA656) (Ha2 := Ha656) (hf := hy738)) ?_
            rintro _ w738 ⟨z738, Ha740, rfl, hz738, hA740, hst738⟩
            replace hst738 : Ht w0 (frz z738 :: (blk g18 [.map (some g664), .map (some g665), .slice A666 l666.length c666, .slice A667 l667.length c667, vi x668, vi x669, vb b670, vi x671] 60) :: (ob g664 (.map E664 c664)) :: (ob g665 (.map E665 c665)) :: (orow 52 1 (.slice A666 l666.length c666) l666.length d666) :: (orow 86 1 (.slice A667 l667.length c667) l667.length d667) :: (blk g8 [.map (some g657), .map (some g658), .slice A659 l659.length c659, vi x660, vi x661, vb b662, vi x663] 68) :: (ob g657 (.map E657 c657)) :: (ob g658 (.map E658 c658)) :: (orow 78 1 (.slice A659 l659.length c659) l659.length d659) :: (Ha737 ++ (Ha740 ++ X))) _ := St.mid (B := [blk g18 [.map (some g664), .map (some g665), .slice A666 l666.length c666, .slice A667 l667.length c667, vi x668, vi x669, vb b670, vi x671] 60, ob g664 (.map E664 c664), ob g665 (.map E665 c665), orow 52 1 (.slice A666 l666.length c666) l666.length d666, orow 86 1 (.slice A667 l667.length c667) l667.length d667]) (M := Ha740) (Ha := ([blk g8 [.map (some g657), .map (some g658), .slice A659 l659.length c659, vi x660, vi x661, vb b662, vi x663] 68, ob g657 (.map E657 c657), ob g658 (.map E658 c658), orow 78 1 (.slice A659 l659.length c659) l659.length d659] ++ Ha737)) hst738
            refine ⟨_, rfl, Ops.stop ?_⟩
            replace f19 := f19.mono hz738; replace f664 := f664.mono hz738; replace f665 := f665.mono hz738; replace f666 := f666.mono hz738; replace f667 := f667.mono hz738; replace f657 := f657.mono hz738; replace f658 := f658.mono hz738; replace f659 := f659.mono hz738; replace hA737 := hA737.mono hz738
            replace hy726_0 := hy726_0.trans hz738
            replace hy726_1 := hy726_1.trans hz738
            replace hz726 := hz726.trans hz738
            replace hm728 := hm728.trans hz738
            have hS0 := (⟨_, _, hm728, (St.up (St.up (St.up (St.up (St.up (St.up (St.up (St.up (St.up (St.up hst738 6 rfl) 2 rfl) 6 rfl) 6 rfl) 6 rfl) 6 rfl) 9 rfl) 9 rfl) 9 rfl) 9 rfl)⟩ : (fun w => ∃ ζ Y, Le z654 ζ ∧ Ht w0 (frz ζ :: (ob g657 (.map E657 c657)) :: (ob g658 (.map E658 c658)) :: (orow 78 1 (.slice A659 l659.length c659) l659.length d659) :: (ob g664 (.map E664 c664)) :: (ob g665 (.map E665 c665)) :: (orow 52 1 (.slice A666 l666.length c666) l666.length d666) :: (orow 86 1 (.slice A667 l667.length c667) l667.length d667) :: (blk g18 [.map (some g664), .map (some g665), .slice A666 l666.length c666, .slice A667 l667.length c667, vi x668, vi x669, vb b670, vi x671] 60) :: (blk g8 [.map (some g657), .map (some g658), .slice A659 l659.length c659, vi x660, vi x661, vb b662, vi x663] 68) :: Y) w) _)
            refine ⟨⟨.inr (fun _ => hS0), trivial⟩, ?_⟩
            refine Any.takeE 21 rfl rfl rfl rfl (by kernel_rfl) (fun _ _ _ _ _ h => h) (ExS.g ((Ex.neqI rfl rfl).s)) ?_
            refine Any.takeE 22 rfl rfl rfl rfl (by kernel_rfl) (fun _ _ _ _ _ h => h) ((Ex.pickF rfl rfl).s) ?_
            refine Any.takeE 23 rfl rfl rfl rfl (by kernel_rfl) (fun _ _ _ _ _ h => h) ((Ex.move rfl).s) ?_
            refine Any.case 122 rfl (fun hc => ?_) (fun hc => ?_)
            · replace hf := ifF (neq_T hc) hf
              refine Any.pass 24 rfl rfl rfl rfl (by kernel_rfl) (fun _ _ _ _ _ h => h) ?_
              refine Any.pass 25 rfl rfl rfl rfl (by kernel_rfl) (fun _ _ _ _ _ h => h) ?_
              refine Any.pass 26 rfl rfl rfl rfl (by kernel_rfl) (fun _ _ _ _ _ h => h) ?_
              refine Any.pass 27 rfl rfl rfl rfl (by kernel_rfl) (fun _ _ _ _ _ h => h) ?_
              refine Any.pass 28 rfl rfl rfl rfl (by kernel_rfl) (fun _ _ _ _ _ h => h) ?_
              refine Any.pass 29 rfl rfl rfl rfl (by kernel_rfl) (fun _ _ _ _ _ h => h) ?_
              refine Any.pass 30 rfl rfl rfl rfl (by kernel_rfl) (fun _ _ _ _ _ h => h) ?_
              refine Any.pass 31 rfl rfl rfl rfl (by kernel_rfl) (fun _ _ _ _ _ h => h) ?_
              refine Any.pass 32 rfl rfl rfl rfl (by kernel_rfl) (fun _ _ _ _ _ h => h) ?_
              refine Any.takeE 33 rfl rfl rfl rfl (by kernel_rfl) (fun _ _ _ _ _ h => h) ((Ex.pickT rfl rfl).s) ?_
              refine Any.done (by kernel_rfl) ?_
              refine Run.condT rfl rfl ?_
              refine Run.seq ?_
              refine Run.region ?_
              refine Ops.ex (Ex.assign rfl) rfl rfl rfl ?_
              refine Ops.nil ?_
              obtain rfl := Option.some.inj hf
              exact Run.retV [vb false] rfl ⟨rfl, trivial⟩ ⟨z738, rfl, hy726_0, (St.forgetT (St.forgetT (St.forget (St.forget (St.forget (St.forget (St.forget (St.forget (St.forget (St.forget (St.forget hst738 9) 8) 7) 6) 5) 4) 3) 2) 1)))⟩
            · replace hf := ifT (neq_F hc) hf
              refine Any.takeE 24 rfl rfl rfl rfl (by kernel_rfl) (fun _ _ _ _ _ h => h) (ExS.g ((Ex.move rfl).s)) ?_
              refine Any.takeE 27 rfl rfl rfl rfl (by kernel_rfl) (fun _ _ _ _ _ h => h) (ExS.g ((Ex.move rfl).s)) ?_
              refine Any.takeE 28 rfl rfl rfl rfl (by kernel_rfl) (fun _ _ _ _ _ h => h) (ExS.g ((Ex.nilCheck rfl).s)) ?_
              refine Any.takeE 29 rfl rfl rfl rfl (by kernel_rfl) (fun _ _ _ _ _ h => h) (ExS.g ((Ex.fieldAddr rfl Try.underlying60 rfl sz56).s)) ?_
              refine Any.take 0 30 rfl rfl rfl rfl rfl (by kernel_rfl) (fun _ _ _ _ _ h => h) (ExS.g (ExS.load rfl Try.underlying56 rfl (fun w hS => by obtain ⟨_, _, _, hs⟩ := hS; exact hs.cell (i := 8) rfl rfl))) hS0 ?_
              obtain ⟨y741, hy741, hf⟩ := bnd hf
              refine Any.one 25 (by kernel_rfl) rfl rfl (One.g <| One.of_ops rfl ?_)
              refine Ops.call rfl rfl Try.func31 (by kernel_rfl) (by kernel_rfl) rfl (go_files_Disk_Names.walk (Γ1 := Γ1) (p0 := (⟨mp657, mp658, l659, x660, x661, b662, x663⟩ : filesDisk)) (hst := (St.up (St.up (St.up (St.up (St.up (St.up (St.up (St.up (St.up (St.up hst738 5 rfl) 5 rfl) 5 rfl) 5 rfl) 5 rfl) 9 rfl) 9 rfl) 9 rfl) 9 rfl) 9 rfl)) (f1 := f657) (f2 := f658) (f3 := f659) (hf := hy741)) ?_
              rintro _ w741 ⟨z741, A742, c742, d742, rfl, hz741, f742, hst741⟩
              refine ⟨_, rfl, Ops.stop ?_⟩
              replace f19 := f19.mono hz741; replace f657 := f657.mono hz741; replace f658 := f658.mono hz741; replace f659 := f659.mono hz741; replace f664 := f664.mono hz741; replace f665 := f665.mono hz741; replace f666 := f666.mono hz741; replace f667 := f667.mono hz741; replace hA737 := hA737.mono hz741; replace hA740 := hA740.mono hz741
              replace hy726_0 := hy726_0.trans hz741
              replace hy726_1 := hy726_1.trans hz741
              replace hz726 := hz726.trans hz741
              replace hm728 := hm728.trans hz741
              have hS0 := (⟨_, _, hm728, (St.up (St.up (St.up (St.up (St.up (St.up (St.up (St.up (St.up (St.up hst741 1 rfl) 6 rfl) 10 rfl) 10 rfl) 10 rfl) 10 rfl) 9 rfl) 9 rfl) 9 rfl) 9 rfl)⟩ : (fun w => ∃ ζ Y, Le z654 ζ ∧ Ht w0 (frz ζ :: (ob g657 (.map E657 c657)) :: (ob g658 (.map E658 c658)) :: (orow 78 1 (.slice A659 l659.length c659) l659.length d659) :: (ob g664 (.map E664 c664)) :: (ob g665 (.map E665 c665)) :: (orow 52 1 (.slice A666 l666.length c666) l666.length d666) :: (orow 86 1 (.slice A667 l667.length c667) l667.length d667) :: (blk g18 [.map (some g664), .map (some g665), .slice A666 l666.length c666, .slice A667 l667.length c667, vi x668, vi x669, vb b670, vi x671] 60) :: (blk g8 [.map (some g657), .map (some g658), .slice A659 l659.length c659, vi x660, vi x661, vb b662, vi x663] 68) :: Y) w) _)
              refine ⟨⟨.inr (fun _ => hS0), trivial⟩, ?_⟩
              refine Any.takeE 26 rfl rfl rfl rfl (by kernel_rfl) (fun _ _ _ _ _ h => h) (ExS.g ((Ex.len' rfl rfl rfl Try.underlying52).s)) ?_
              refine Any.one 31 (by kernel_rfl) rfl rfl (One.g <| One.of_ops rfl ?_)
              refine Ops.mlen (Mr.own f664 hst741 (i := 7) rfl) rfl rfl rfl Try.underlying56 rfl (Ops.stop ?_)
              have hS0 := (⟨_, _, hm728, (St.up (St.up (St.up (St.up (St.up (St.up (St.up (St.up (St.up (St.up hst741 1 rfl) 6 rfl) 10 rfl) 10 rfl) 10 rfl) 10 rfl) 9 rfl) 9 rfl) 9 rfl) 9 rfl)⟩ : (fun w => ∃ ζ Y, Le z654 ζ ∧ Ht w0 (frz ζ :: (ob g657 (.map E657 c657)) :: (ob g658 (.map E658 c658)) :: (orow 78 1 (.slice A659 l659.length c659) l659.length d659) :: (ob g664 (.map E664 c664)) :: (ob g665 (.map E665 c665)) :: (orow 52 1 (.slice A666 l666.length c666) l666.length d666) :: (orow 86 1 (.slice A667 l667.length c667) l667.length d667) :: (blk g18 [.map (some g664), .map (some g665), .slice A666 l666.length c666, .slice A667 l667.length c667, vi x668, vi x669, vb b670, vi x671] 60) :: (blk g8 [.map (some g657), .map (some g658), .slice A659 l659.length c659, vi x660, vi x661, vb b662, vi x663] 68) :: Y) w) _)
              refine ⟨⟨.inr (fun _ => hS0), trivial⟩, ?_⟩
              refine Any.takeE 32 rfl rfl rfl rfl (by kernel_rfl) (fun _ _ _ _ _ h => h) (ExS.g ((Ex.neqI rfl rfl).s)) ?_
              refine Any.takeE 33 rfl rfl rfl rfl (by kernel_rfl) (fun _ _ _ _ _ h => h) ((Ex.pickF rfl rfl).s) ?_
              refine Any.done (by kernel_rfl) ?_
              refine Run.cond rfl (fun hc => ?_) (fun hc => ?_)
              · replace hf := ifF (neq_T hc) hf
                refine Run.seq ?_
                refine Run.region ?_
                refine Ops.ex (Ex.assign rfl) rfl rfl rfl ?_
                refine Ops.nil ?_
                obtain rfl := Option.some.inj hf
                exact Run.retV [vb false] rfl ⟨rfl, trivial⟩ ⟨z741, rfl, hy726_0, (St.forgetT (St.forgetT (St.forget (St.forget (St.forget (St.forget (St.forget (St.forget (St.forget (St.forget (St.forget (St.forget hst741 10) 9) 8) 7) 6) 5) 4) 3) 2) 1)))⟩
              · replace hf := ifT (neq_F hc) hf
                refine Run.skip ?_
                refine Run.seq ?_
                refine Run.region ?_
                refine Ops.ex (Ex.assign rfl) rfl rfl rfl ?_
                refine Ops.nil ?_
                refine Run.seq ?_
                refine Run.region ?_
                refine Ops.ex (Ex.move rfl) rfl rfl rfl ?_
                obtain ⟨y743, hy743, hf⟩ := bnd hf
                refine Ops.call rfl rfl Try.func31 (by kernel_rfl) (by kernel_rfl) rfl (go_files_Disk_Names.walk (Γ1 := Γ1) (p0 := (⟨mp657, mp658, l659, x660, x661, b662, x663⟩ : filesDisk)) (hst := hst741) (f1 := f657) (f2 := f658) (f3 := f659) (hf := hy743)) ?_
                rintro _ w743 ⟨z743, A744, c744, d744, rfl, hz743, f744, hst743⟩
                refine ⟨_, rfl, ?_⟩
                replace f19 := f19.mono hz743; replace f657 := f657.mono hz743; replace f658 := f658.mono hz743; replace f659 := f659.mono hz743; replace f742 := f742.mono hz743; replace f664 := f664.mono hz743; replace f665 := f665.mono hz743; replace f666 := f666.mono hz743; replace f667 := f667.mono hz743; replace hA737 := hA737.mono hz743; replace hA740 := hA740.mono hz743
                replace hy726_0 := hy726_0.trans hz743
                replace hy726_1 := hy726_1.trans hz743
                replace hz726 := hz726.trans hz743
                replace hm728 := hm728.trans hz743
                refine Ops.ex (Ex.len' rfl rfl rfl Try.underlying52) rfl rfl rfl ?_
                refine Ops.ex (Ex.move rfl) rfl rfl rfl ?_
                refine Ops.nil ?_
                refine Run.block ?_
                have hc745 := (own_slh f744 rfl (hst743.get (i := 5) rfl)).cap
                have hm746 := Le.refl z743
                refine Run.sub (e' := [(5, .pointer (some ⟨g8, 0, none⟩)), (6, .pointer (some ⟨g18, 0, none⟩)), (10, vs []), (33, .slice A19 l19.length c19), (34, vi (l19.length : Int)), (35, vi (i20 : Int)), (134, .slice A744 y743.length c744), (135, vi (y743.length : Int)), (136, vi ((0 : Nat) : Int))]) (subB_spec ⟨rfl, rfl, rfl, rfl, rfl, rfl, rfl, rfl, rfl, trivial⟩) ?_
                refine Run.loop (fun mb745 => (fun e' w' => ∃ (i745 : Nat) (s801 : Str) (ar802 : List filesfile) (Ha802 : List Res) (Ha803 : List Res) (z800 : Zp), mb745 = y743.length - i745 ∧ i745 ≤ y743.length ∧ forL (go_law04_FilesScript.b2 ar656 mp657 mp658 l659 x660 x661 b662 x663 mp664 b670) (fun (s801, ar802) => nxb20 (ar802, ar656, mp657, mp658, l659, x660, x661, b662, x663, mp664, mp665, l666, l667, x668, x669, b670, x671)) i745 (y743.drop i745) (s801, ar802) = some r ∧ e' = [(5, .pointer (some ⟨g8, 0, none⟩)), (6, .pointer (some ⟨g18, 0, none⟩)), (10, vs s801), (33, .slice A19 l19.length c19), (34, vi (l19.length : Int)), (35, vi (i20 : Int)), (134, .slice A744 y743.length c744), (135, vi (y743.length : Int)), (136, vi (i745 : Int))] ∧ Le z743 z800 ∧ Le z0 z800 ∧ Le z7 z800 ∧ Le z561 z800 ∧ Le z654 z800 ∧ Ar1 z800 Γ1 ar802 Ha802 ∧ Ar2 z800 Γ2 ar656 Ha803 ∧ Ht w0 (frz z800 :: (blk g8 [.map (some g657), .map (some g658), .slice A659 l659.length c659, vi x660, vi x661, vb b662, vi x663] 68) :: (ob g657 (.map E657 c657)) :: (ob g658 (.map E658 c658)) :: (orow 78 1 (.slice A659 l659.length c659) l659.length d659) :: (orow 9 1 (.slice A744 y743.length c744) y743.length d744) :: (blk g18 [.map (some g664), .map (some g665), .slice A666 l666.length c666, .slice A667 l667.length c667, vi x668, vi x669, vb b670, vi x671] 60) :: (ob g664 (.map E664 c664)) :: (ob g665 (.map E665 c665)) :: (orow 52 1 (.slice A666 l666.length c666) l666.length d666) :: (orow 86 1 (.slice A667 l667.length c667) l667.length d667) :: (Ha802 ++ (Ha803 ++ X))) w')) y743.length ⟨0, [], ar655, Ha737, Ha740, z743, rfl, Nat.zero_le _, hf, rfl, hm746, hy726_0, hy726_1, hz726, hm728, hA737, hA740, (St.forget hst743 6)⟩ ?_
                rintro _ e' w804 ⟨i745, s801, ar802, Ha802, Ha803, z800, rfl, hi745, hf, rfl, hz804, hy804_0, hy804_1, hy804_2, hy804_3, hA802, hA803, hst804⟩
                replace f19 := f19.mono hz804; replace f657 := f657.mono hz804; replace f658 := f658.mono hz804; replace f659 := f659.mono hz804; replace f744 := f744.mono hz804; replace f664 := f664.mono hz804; replace f665 := f665.mono hz804; replace f666 := f666.mono hz804; replace f667 := f667.mono hz804
                refine Run.seq ?_
                refine Run.region ?_
                refine Ops.ex (Ex.lss rfl rfl) rfl rfl rfl ?_
                refine Ops.nil ?_
                refine Run.seq ?_
                refine Run.cond rfl (fun hc => ?_) (fun hc => ?_)
                · have hl745 := lt_of_dec hc
                  obtain ⟨a745, nxb745, ha745, hnxb745, hf⟩ := forL_in hf hl745
                  unfold go_law04_FilesScript.b2 at hf
                  try dsimp only at hf
                  refine Run.skip ?_
                  refine Run.seq ?_
                  refine Run.block ?_
                  refine Run.seq ?_
                  refine Run.region ?_
                  obtain ⟨g806, p806, o806, cs806, hA806, ho806, hr806, f806⟩ := own_elem f744 rfl (hst804.get (i := 5) rfl) (atI_nat ha745)
                  obtain rfl := hr806
                  refine Ops.ex (Ex.ixA hA806 ho806 (atI_nat ha745) rfl rfl rfl Try.underlying52 sz9) rfl rfl rfl ?_
                  refine Ops.load rfl Try.underlying9 rfl ((f806 _ (hst804.get (i := 5) rfl)) 0 _ rfl) rfl ?_
                  refine Ops.ex (Ex.assign rfl) rfl rfl rfl ?_
                  refine Ops.nil ?_
                  refine Run.seq ?_
                  refine Run.region ?_
                  refine Ops.ex (Ex.move rfl) rfl rfl rfl ?_
                  refine Ops.ex (Ex.nilCheck rfl) rfl rfl rfl ?_
                  refine Ops.ex (Ex.fieldAddr rfl Try.underlying60 rfl sz56) rfl rfl rfl ?_
                  refine Ops.load rfl Try.underlying56 rfl (hst804.cell (i := 6) rfl rfl) rfl ?_
                  refine Ops.ex (Ex.move rfl) rfl rfl rfl ?_
                  refine Ops.mlook1 (zcs := [.pointer none]) (s := a745) none (Mr.own f664 hst804 (i := 7) rfl) rfl rfl Try.underlying56 Try.underlying9 zr62 ⟨_, rfl, (PtA.nil _)⟩ rfl (fun cs807 hR807 => ?_)
                  obtain ⟨A808, rfl, f808⟩ := hR807
                  refine Ops.ex (Ex.assign rfl) rfl rfl rfl ?_
                  refine Ops.nil ?_
                  refine Run.seq ?_
                  refine Run.region ?_
                  refine Ops.ex (Ex.move rfl) rfl rfl rfl ?_
                  refine Ops.ex (Ex.move rfl) rfl rfl rfl ?_
                  obtain ⟨y809, hy809, hf⟩ := bnd hf
                  refine Ops.call rfl rfl Try.func16 (by kernel_rfl) (by kernel_rfl) rfl (go_files_Disk_Read.walk (Γ1 := Γ1) (p0 := (⟨mp657, mp658, l659, x660, x661, b662, x663⟩ : filesDisk)) (p1 := a745) (ar1 := ar802) (hst := (St.mid (B := [blk g8 [.map (some g657), .map (some g658), .slice A659 l659.length c659, vi x660, vi x661, vb b662, vi x663] 68, ob g657 (.map E657 c657), ob g658 (.map E658 c658), orow 78 1 (.slice A659 l659.length c659) l659.length d659]) (M := [orow 9 1 (.slice A744 y743.length c744) y743.length d744, blk g18 [.map (some g664), .map (some g665), .slice A666 l666.length c666, .slice A667 l667.length c667, vi x668, vi x669, vb b670, vi x671] 60, ob g664 (.map E664 c664), ob g665 (.map E665 c665), orow 52 1 (.slice A666 l666.length c666) l666.length d666, orow 86 1 (.slice A667 l667.length c667) l667.length d667]) (Ha := Ha802) hst804)) (f1 := f657) (f2 := f658) (f3 := f659) (hA1 := hA802) (Ha1 := Ha802) (hf := hy809)) ?_
                  rintro _ w809 ⟨z809, A810, c810, d810, Ha812, rfl, hz809, f810, hA812, hst809⟩
                  replace hst809 : Ht w0 (frz z809 :: (blk g8 [.map (some g657), .map (some g658), .slice A659 l659.length c659, vi x660, vi x661, vb b662, vi x663] 68) :: (ob g657 (.map E657 c657)) :: (ob g658 (.map E658 c658)) :: (orow 78 1 (.slice A659 l659.length c659) l659.length d659) :: (orow 5 1 (.slice A810 y809.1.length c810) y809.1.length d810) :: (orow 9 1 (.slice A744 y743.length c744) y743.length d744) :: (blk g18 [.map (some g664), .map (some g665), .slice A666 l666.length c666, .slice A667 l667.length c667, vi x668, vi x669, vb b670, vi x671] 60) :: (ob g664 (.map E664 c664)) :: (ob g665 (.map E665 c665)) :: (orow 52 1 (.slice A666 l666.length c666) l666.length d666) :: (orow 86 1 (.slice A667 l667.length c667) l667.length d667) :: (Ha812 ++ (Ha803 ++ X))) _ := St.mid (B := [blk g8 [.map (some g657), .map (some g658), .slice A659 l659.length c659, vi x660, vi x661, vb b662, vi x663] 68, ob g657 (.map E657 c657), ob g658 (.map E658 c658), orow 78 1 (.slice A659 l659.length c659) l659.length d659, orow 5 1 (.slice A810 y809.1.length c810) y809.1.length d810]) (M := Ha812) (Ha := [orow 9 1 (.slice A744 y743.length c744) y743.length d744, blk g18 [.map (some g664), .map (some g665), .slice A666 l666.length c666, .slice A667 l667.length c667, vi x668, vi x669, vb b670, vi x671] 60, ob g664 (.map E664 c664), ob g665 (.map E665 c665), orow 52 1 (.slice A666 l666.length c666) l666.length d666, orow 86 1 (.slice A667 l667.length c667) l667.length d667]) hst809
                  refine ⟨_, rfl, ?_⟩
                  replace f19 := f19.mono hz809; replace f808 := f808.mono hz809; replace f657 := f657.mono hz809; replace f658 := f658.mono hz809; replace f659 := f659.mono hz809; replace f744 := f744.mono hz809; replace f664 := f664.mono hz809; replace f665 := f665.mono hz809; replace f666 := f666.mono hz809; replace f667 := f667.mono hz809; replace hA803 := hA803.mono hz809
                  replace hy804_0 := hy804_0.trans hz809
                  replace hy804_1 := hy804_1.trans hz809
                  replace hy804_2 := hy804_2.trans hz809
                  replace hy804_3 := hy804_3.trans hz809
                  replace hz804 := hz804.trans hz809
                  refine Ops.ex (Ex.move rfl) rfl rfl rfl ?_
                  refine Ops.ex (Ex.extract rfl rfl) rfl rfl rfl ?_
                  refine Ops.ex (Ex.extract rfl rfl) rfl rfl rfl ?_
                  refine Ops.ex (Ex.assign rfl) rfl rfl rfl ?_
                  refine Ops.ex (Ex.assign rfl) rfl rfl rfl ?_
                  refine Ops.nil ?_
                  refine Run.seq ?_
                  refine Run.seq ?_
                  have hm814 := Le.refl z809
                  refine Run.drawH [([], fun w => ∃ ζ Y, Le z809 ζ ∧ Ht w0 (frz ζ :: (blk g8 [.map (some g657), .map (some g658), .slice A659 l659.length c659, vi x660, vi x661, vb b662, vi x663] 68) :: (ob g657 (.map E657 c657)) :: (ob g658 (.map E658 c658)) :: (orow 78 1 (.slice A659 l659.length c659) l659.length d659) :: (orow 5 1 (.slice A810 y809.1.length c810) y809.1.length d810) :: (orow 9 1 (.slice A744 y743.length c744) y743.length d744) :: (blk g18 [.map (some g664), .map (some g665), .slice A666 l666.length c666, .slice A667 l667.length c667, vi x668, vi x669, vb b670, vi x671] 60) :: (ob g664 (.map E664 c664)) :: (ob g665 (.map E665 c665)) :: (orow 52 1 (.slice A666 l666.length c666) l666.length d666) :: (orow 86 1 (.slice A667 l667.length c667) l667.length d667) :: Y) w)] (by kernel_rfl) hst809 (fun w813 hst813 => ?_)
                  have hS0 := (⟨_, _, (Le.refl _), (St.up (St.up (St.up (St.up (St.up (St.up (St.up (St.up (St.up (St.up (St.up (St.up hst813 11 rfl) 11 rfl) 11 rfl) 11 rfl) 11 rfl) 11 rfl) 11 rfl) 11 rfl) 11 rfl) 11 rfl) 11 rfl) 11 rfl)⟩ : (fun w => ∃ ζ Y, Le z809 ζ ∧ Ht w0 (frz ζ :: (blk g8 [.map (some g657), .map (some g658), .slice A659 l659.length c659, vi x660, vi x661, vb b662, vi x663] 68) :: (ob g657 (.map E657 c657)) :: (ob g658 (.map E658 c658)) :: (orow 78 1 (.slice A659 l659.length c659) l659.length d659) :: (orow 5 1 (.slice A810 y809.1.length c810) y809.1.length d810) :: (orow 9 1 (.slice A744 y743.length c744) y743.length d744) :: (blk g18 [.map (some g664), .map (some g665), .slice A666 l666.length c666, .slice A667 l667.length c667, vi x668, vi x669, vb b670, vi x671] 60) :: (ob g664 (.map E664 c664)) :: (ob g665 (.map E665 c665)) :: (orow 52 1 (.slice A666 l666.length c666) l666.length d666) :: (orow 86 1 (.slice A667 l667.length c667) l667.length d667) :: Y) w) _)
                  refine Any.takeE 0 rfl rfl rfl rfl (by kernel_rfl) (fun _ _ _ _ _ h => h) ((Ex.move rfl).s) ?_
                  refine Any.takeE 1 rfl rfl rfl rfl (by kernel_rfl) (fun _ _ _ _ _ h => h) ((Ex.move rfl).s) ?_
                  refine Any.takeE 2 rfl rfl rfl rfl (by kernel_rfl) (fun _ _ _ _ _ h => h) ((Ex.leqT rfl rfl).s) ?_
                  refine Any.takeE 3 rfl rfl rfl rfl (by kernel_rfl) (fun _ _ _ _ _ h => h) ((Ex.move rfl).s) ?_
                  refine Any.case 155 rfl (fun hc => ?_) (fun hc => ?_)
                  · replace hf := ifTb hc hf
                    refine Any.pass 4 rfl rfl rfl rfl (by kernel_rfl) (fun _ _ _ _ _ h => h) ?_
                    refine Any.pass 5 rfl rfl rfl rfl (by kernel_rfl) (fun _ _ _ _ _ h => h) ?_
                    refine Any.takeE 6 rfl rfl rfl rfl (by kernel_rfl) (fun _ _ _ _ _ h => h) ((Ex.pickT rfl rfl).s) ?_
                    refine Any.takeE 7 rfl rfl rfl rfl (by kernel_rfl) (fun _ _ _ _ _ h => h) ((Ex.move rfl).s) ?_
                    refine Any.pass 8 rfl rfl rfl rfl (by kernel_rfl) (fun _ _ _ _ _ h => h) ?_
                    refine Any.pass 9 rfl rfl rfl rfl (by kernel_rfl) (fun _ _ _ _ _ h => h) ?_
                    refine Any.pass 10 rfl rfl rfl rfl (by kernel_rfl) (fun _ _ _ _ _ h => h) ?_
                    refine Any.pass 11 rfl rfl rfl rfl (by kernel_rfl) (fun _ _ _ _ _ h => h) ?_
                    refine Any.pass 12 rfl rfl rfl rfl (by kernel_rfl) (fun _ _ _ _ _ h => h) ?_
                    refine Any.passU 13 rfl rfl rfl rfl rfl (by kernel_rfl) (fun _ _ _ _ _ h => h) ?_
                    refine Any.passU 14 rfl rfl rfl rfl rfl (by kernel_rfl) (fun _ _ _ _ _ h => h) ?_
                    refine Any.pass 15 rfl rfl rfl rfl (by kernel_rfl) (fun _ _ _ _ _ h => h) ?_
                    refine Any.takeE 16 rfl rfl rfl rfl (by kernel_rfl) (fun _ _ _ _ _ h => h) ((Ex.pickT rfl rfl).s) ?_
                    refine Any.takeE 17 rfl rfl rfl rfl (by kernel_rfl) (fun _ _ _ _ _ h => h) ((Ex.move rfl).s) ?_
                    refine Any.pass 18 rfl rfl rfl rfl (by kernel_rfl) (fun _ _ _ _ _ h => h) ?_
                    refine Any.pass 19 rfl rfl rfl rfl (by kernel_rfl) (fun _ _ _ _ _ h => h) ?_
                    refine Any.pass 20 rfl rfl rfl rfl (by kernel_rfl) (fun _ _ _ _ _ h => h) ?_
                    refine Any.pass 21 rfl rfl rfl rfl (by kernel_rfl) (fun _ _ _ _ _ h => h) ?_
                    refine Any.pass 22 rfl rfl rfl rfl (by kernel_rfl) (fun _ _ _ _ _ h => h) ?_
                    refine Any.pass 23 rfl rfl rfl rfl (by kernel_rfl) (fun _ _ _ _ _ h => h) ?_
                    refine Any.passU 24 rfl rfl rfl rfl rfl (by kernel_rfl) (fun _ _ _ _ _ h => h) ?_
                    refine Any.passU 25 rfl rfl rfl rfl rfl (by kernel_rfl) (fun _ _ _ _ _ h => h) ?_
                    refine Any.passU 26 rfl rfl rfl rfl rfl (by kernel_rfl) (fun _ _ _ _ _ h => h) ?_
                    refine Any.passU 27 rfl rfl rfl rfl rfl (by kernel_rfl) (fun _ _ _ _ _ h => h) ?_
                    refine Any.passU 28 rfl rfl rfl rfl rfl (by kernel_rfl) (fun _ _ _ _ _ h => h) ?_
                    refine Any.passU 29 rfl rfl rfl rfl rfl (by kernel_rfl) (fun _ _ _ _ _ h => h) ?_
                    refine Any.passU 30 rfl rfl rfl rfl rfl (by kernel_rfl) (fun _ _ _ _ _ h => h) ?_
                    refine Any.passU 31 rfl rfl rfl rfl rfl (by kernel_rfl) (fun _ _ _ _ _ h => h) ?_
                    refine Any.passU 32 rfl rfl rfl rfl rfl (by kernel_rfl) (fun _ _ _ _ _ h => h) ?_
                    refine Any.passU 33 rfl rfl rfl rfl rfl (by kernel_rfl) (fun _ _ _ _ _ h => h) ?_
                    refine Any.passU 34 rfl rfl rfl rfl rfl (by kernel_rfl) (fun _ _ _ _ _ h => h) ?_
                    refine Any.pass 35 rfl rfl rfl rfl (by kernel_rfl) (fun _ _ _ _ _ h => h) ?_
                    refine Any.takeE 36 rfl rfl rfl rfl (by kernel_rfl) (fun _ _ _ _ _ h => h) ((Ex.pickT rfl rfl).s) ?_
                    refine Any.done (by kernel_rfl) ?_
                    refine Run.condT rfl rfl ?_
                    refine Run.seq ?_
                    refine Run.region ?_
                    refine Ops.ex (Ex.assign rfl) rfl rfl rfl ?_
                    refine Ops.nil ?_
                    obtain rfl := Option.some.inj hf
                    exact Run.retV [vb false] rfl ⟨rfl, trivial⟩ ⟨z809, rfl, hy804_0, (St.forgetT (St.forgetT (St.forget (St.forget (St.forget (St.forget (St.forget (St.forget (St.forget (St.forget (St.forget (St.forget (St.forget hst813 11) 10) 9) 8) 7) 6) 5) 4) 3) 2) 1)))⟩
                  · replace hf := ifFb hc hf
                    refine Any.takeE 4 rfl rfl rfl rfl (by kernel_rfl) (fun _ _ _ _ _ h => h) (ExS.g ((Ex.move rfl).s)) ?_
                    refine Any.takeE 5 rfl rfl rfl rfl (by kernel_rfl) (fun _ _ _ _ _ h => h) (ExS.g ((Ex.eqlA f808 rfl rfl Try.underlying62).s)) ?_
                    refine Any.takeE 6 rfl rfl rfl rfl (by kernel_rfl) (fun _ _ _ _ _ h => h) ((Ex.pickF rfl rfl).s) ?_
                    refine Any.takeE 7 rfl rfl rfl rfl (by kernel_rfl) (fun _ _ _ _ _ h => h) ((Ex.move rfl).s) ?_
                    refine Any.case 159 rfl (fun hc => ?_) (fun hc => ?_)
                    · replace hf := ifT (dec_T hc) hf
                      refine Any.pass 8 rfl rfl rfl rfl (by kernel_rfl) (fun _ _ _ _ _ h => h) ?_
                      refine Any.pass 9 rfl rfl rfl rfl (by kernel_rfl) (fun _ _ _ _ _ h => h) ?_
                      refine Any.pass 10 rfl rfl rfl rfl (by kernel_rfl) (fun _ _ _ _ _ h => h) ?_
                      refine Any.pass 11 rfl rfl rfl rfl (by kernel_rfl) (fun _ _ _ _ _ h => h) ?_
                      refine Any.pass 12 rfl rfl rfl rfl (by kernel_rfl) (fun _ _ _ _ _ h => h) ?_
                      refine Any.passU 13 rfl rfl rfl rfl rfl (by kernel_rfl) (fun _ _ _ _ _ h => h) ?_
                      refine Any.passU 14 rfl rfl rfl rfl rfl (by kernel_rfl) (fun _ _ _ _ _ h => h) ?_
                      refine Any.pass 15 rfl rfl rfl rfl (by kernel_rfl) (fun _ _ _ _ _ h => h) ?_
                      refine Any.takeE 16 rfl rfl rfl rfl (by kernel_rfl) (fun _ _ _ _ _ h => h) ((Ex.pickT rfl rfl).s) ?_
                      refine Any.takeE 17 rfl rfl rfl rfl (by kernel_rfl) (fun _ _ _ _ _ h => h) ((Ex.move rfl).s) ?_
                      refine Any.pass 18 rfl rfl rfl rfl (by kernel_rfl) (fun _ _ _ _ _ h => h) ?_
                      refine Any.pass 19 rfl rfl rfl rfl (by kernel_rfl) (fun _ _ _ _ _ h => h) ?_
                      refine Any.pass 20 rfl rfl rfl rfl (by kernel_rfl) (fun _ _ _ _ _ h => h) ?_
                      refine Any.pass 21 rfl rfl rfl rfl (by kernel_rfl) (fun _ _ _ _ _ h => h) ?_
                      refine Any.pass 22 rfl rfl rfl rfl (by kernel_rfl) (fun _ _ _ _ _ h => h) ?_
                      refine Any.pass 23 rfl rfl rfl rfl (by kernel_rfl) (fun _ _ _ _ _ h => h) ?_
                      refine Any.passU 24 rfl rfl rfl rfl rfl (by kernel_rfl) (fun _ _ _ _ _ h => h) ?_
                      refine Any.passU 25 rfl rfl rfl rfl rfl (by kernel_rfl) (fun _ _ _ _ _ h => h) ?_
                      refine Any.passU 26 rfl rfl rfl rfl rfl (by kernel_rfl) (fun _ _ _ _ _ h => h) ?_
                      refine Any.passU 27 rfl rfl rfl rfl rfl (by kernel_rfl) (fun _ _ _ _ _ h => h) ?_
                      refine Any.passU 28 rfl rfl rfl rfl rfl (by kernel_rfl) (fun _ _ _ _ _ h => h) ?_
                      refine Any.passU 29 rfl rfl rfl rfl rfl (by kernel_rfl) (fun _ _ _ _ _ h => h) ?_
                      refine Any.passU 30 rfl rfl rfl rfl rfl (by kernel_rfl) (fun _ _ _ _ _ h => h) ?_
                      refine Any.passU 31 rfl rfl rfl rfl rfl (by kernel_rfl) (fun _ _ _ _ _ h => h) ?_
                      refine Any.passU 32 rfl rfl rfl rfl rfl (by kernel_rfl) (fun _ _ _ _ _ h => h) ?_
                      refine Any.passU 33 rfl rfl rfl rfl rfl (by kernel_rfl) (fun _ _ _ _ _ h => h) ?_
                      refine Any.passU 34 rfl rfl rfl rfl rfl (by kernel_rfl) (fun _ _ _ _ _ h => h) ?_
                      refine Any.pass 35 rfl rfl rfl rfl (by kernel_rfl) (fun _ _ _ _ _ h => h) ?_
                      refine Any.takeE 36 rfl rfl rfl rfl (by kernel_rfl) (fun _ _ _ _ _ h => h) ((Ex.pickT rfl rfl).s) ?_
                      refine Any.done (by kernel_rfl) ?_
                      refine Run.condT rfl rfl ?_
                      refine Run.seq ?_
                      refine Run.region ?_
                      refine Ops.ex (Ex.assign rfl) rfl rfl rfl ?_
                      refine Ops.nil ?_
                      obtain rfl := Option.some.inj hf
                      exact Run.retV [vb false] rfl ⟨rfl, trivial⟩ ⟨z809, rfl, hy804_0, (St.forgetT (St.forgetT (St.forget (St.forget (St.forget (St.forget (St.forget (St.forget (St.forget (St.forget (St.forget (St.forget (St.forget hst813 11) 10) 9) 8) 7) 6) 5) 4) 3) 2) 1)))⟩
                    · replace hf := ifF (dec_F hc) hf
                      refine Any.takeE 8 rfl rfl rfl rfl (by kernel_rfl) (fun _ _ _ _ _ h => h) (ExS.g ((Ex.move rfl).s)) ?_
                      refine Any.takeE 9 rfl rfl rfl rfl (by kernel_rfl) (fun _ _ _ _ _ h => h) (ExS.g ((Ex.nilCheck rfl).s)) ?_
                      refine Any.takeE 10 rfl rfl rfl rfl (by kernel_rfl) (fun _ _ _ _ _ h => h) (ExS.g ((Ex.fieldAddr rfl Try.underlying60 rfl sz4).s)) ?_
                      refine Any.take 0 11 rfl rfl rfl rfl rfl (by kernel_rfl) (fun _ _ _ _ _ h => h) (ExS.g (ExS.load rfl Try.underlying4 rfl (fun w hS => by obtain ⟨_, _, _, hs⟩ := hS; exact hs.cell (i := 7) rfl rfl))) hS0 ?_
                      refine Any.takeE 12 rfl rfl rfl rfl (by kernel_rfl) (fun _ _ _ _ _ h => h) (ExS.g ((Ex.move rfl).s)) ?_
                      refine Any.case 164 rfl (fun hc => ?_) (fun hc => ?_)
                      · replace hf := ifTb hc hf
                        refine Any.takeE 13 rfl rfl rfl rfl (by kernel_rfl) (fun _ _ _ _ _ h => h) (ExS.g ((Ex.move rfl).s)) ?_
                        refine Any.takeE 14 rfl rfl rfl rfl (by kernel_rfl) (fun _ _ _ _ _ h => h) (ExS.g ((Ex.neqI rfl rfl).s)) ?_
                        refine Any.takeE 15 rfl rfl rfl rfl (by kernel_rfl) (fun _ _ _ _ _ h => h) (ExS.g ((Ex.pickT rfl rfl).s)) ?_
                        refine Any.takeE 16 rfl rfl rfl rfl (by kernel_rfl) (fun _ _ _ _ _ h => h) ((Ex.pickF rfl rfl).s) ?_
                        refine Any.takeE 17 rfl rfl rfl rfl (by kernel_rfl) (fun _ _ _ _ _ h => h) ((Ex.move rfl).s) ?_
                        refine Any.case 169 rfl (fun hc => ?_) (fun hc => ?_)
                        · replace hf := ifF (neq_T hc) hf
                          refine Any.pass 18 rfl rfl rfl rfl (by kernel_rfl) (fun _ _ _ _ _ h => h) ?_
                          refine Any.pass 19 rfl rfl rfl rfl (by kernel_rfl) (fun _ _ _ _ _ h => h) ?_
                          refine Any.pass 20 rfl rfl rfl rfl (by kernel_rfl) (fun _ _ _ _ _ h => h) ?_
                          refine Any.pass 21 rfl rfl rfl rfl (by kernel_rfl) (fun _ _ _ _ _ h => h) ?_
                          refine Any.pass 22 rfl rfl rfl rfl (by kernel_rfl) (fun _ _ _ _ _ h => h) ?_
                          refine Any.pass 23 rfl rfl rfl rfl (by kernel_rfl) (fun _ _ _ _ _ h => h) ?_
                          refine Any.passU 24 rfl rfl rfl rfl rfl (by kernel_rfl) (fun _ _ _ _ _ h => h) ?_
                          refine Any.passU 25 rfl rfl rfl rfl rfl (by kernel_rfl) (fun _ _ _ _ _ h => h) ?_
                          refine Any.passU 26 rfl rfl rfl rfl rfl (by kernel_rfl) (fun _ _ _ _ _ h => h) ?_
                          refine Any.passU 27 rfl rfl rfl rfl rfl (by kernel_rfl) (fun _ _ _ _ _ h => h) ?_
                          refine Any.passU 28 rfl rfl rfl rfl rfl (by kernel_rfl) (fun _ _ _ _ _ h => h) ?_
                          refine Any.passU 29 rfl rfl rfl rfl rfl (by kernel_rfl) (fun _ _ _ _ _ h => h) ?_
                          refine Any.passU 30 rfl rfl rfl rfl rfl (by kernel_rfl) (fun _ _ _ _ _ h => h) ?_
                          refine Any.passU 31 rfl rfl rfl rfl rfl (by kernel_rfl) (fun _ _ _ _ _ h => h) ?_
                          refine Any.passU 32 rfl rfl rfl rfl rfl (by kernel_rfl) (fun _ _ _ _ _ h => h) ?_
                          refine Any.passU 33 rfl rfl rfl rfl rfl (by kernel_rfl) (fun _ _ _ _ _ h => h) ?_
                          refine Any.passU 34 rfl rfl rfl rfl rfl (by kernel_rfl) (fun _ _ _ _ _ h => h) ?_
                          refine Any.pass 35 rfl rfl rfl rfl (by kernel_rfl) (fun _ _ _ _ _ h => h) ?_
                          refine Any.takeE 36 rfl rfl rfl rfl (by kernel_rfl) (fun _ _ _ _ _ h => h) ((Ex.pickT rfl rfl).s) ?_
                          refine Any.done (by kernel_rfl) ?_
                          refine Run.condT rfl rfl ?_
                          refine Run.seq ?_
                          refine Run.region ?_
                          refine Ops.ex (Ex.assign rfl) rfl rfl rfl ?_
                          refine Ops.nil ?_
                          obtain rfl := Option.some.inj hf
                          exact Run.retV [vb false] rfl ⟨rfl, trivial⟩ ⟨z809, rfl, hy804_0, (St.forgetT (St.forgetT (St.forget (St.forget (St.forget (St.forget (St.forget (St.forget (St.forget (St.forget (St.forget (St.forget (St.forget hst813 11) 10) 9) 8) 7) 6) 5) 4) 3) 2) 1)))⟩
                        · replace hf := ifT (neq_F hc) hf
                          refine Any.takeE 18 rfl rfl rfl rfl (by kernel_rfl) (fun _ _ _ _ _ h => h) (ExS.g ((Ex.move rfl).s)) ?_
                          refine Any.takeE 19 rfl rfl rfl rfl (by kernel_rfl) (fun _ _ _ _ _ h => h) (ExS.g ((Ex.nilCheck rfl).s)) ?_
                          refine Any.takeE 20 rfl rfl rfl rfl (by kernel_rfl) (fun _ _ _ _ _ h => h) (ExS.g ((Ex.fieldAddr rfl Try.underlying60 rfl sz4).s)) ?_
                          refine Any.take 0 21 rfl rfl rfl rfl rfl (by kernel_rfl) (fun _ _ _ _ _ h => h) (ExS.g (ExS.load rfl Try.underlying4 rfl (fun w hS => by obtain ⟨_, _, _, hs⟩ := hS; exact hs.cell (i := 7) rfl rfl))) hS0 ?_
                          refine Any.takeE 22 rfl rfl rfl rfl (by kernel_rfl) (fun _ _ _ _ _ h => h) (ExS.g ((Ex.not rfl).s)) ?_
                          refine Any.takeE 23 rfl rfl rfl rfl (by kernel_rfl) (fun _ _ _ _ _ h => h) (ExS.g ((Ex.move rfl).s)) ?_
                          refine Any.case 175 rfl (fun hc => ?_) (fun hc => ?_)
                          · replace hf := ifFb (bn_T hc) hf
                            refine Any.takeE 24 rfl rfl rfl rfl (by kernel_rfl) (fun _ _ _ _ _ h => h) (ExS.g ((Ex.move rfl).s)) ?_
                            refine Any.takeE 25 rfl rfl rfl rfl (by kernel_rfl) (fun _ _ _ _ _ h => h) (ExS.g ((Ex.neqI rfl rfl).s)) ?_
                            refine Any.takeE 26 rfl rfl rfl rfl (by kernel_rfl) (fun _ _ _ _ _ h => h) (ExS.g ((Ex.move rfl).s)) ?_
                            refine Any.case 178 rfl (fun hc => ?_) (fun hc => ?_)
                            · replace hf := ifF (neq_T hc) hf
                              refine Any.pass 27 rfl rfl rfl rfl (by kernel_rfl) (fun _ _ _ _ _ h => h) ?_
                              refine Any.pass 28 rfl rfl rfl rfl (by kernel_rfl) (fun _ _ _ _ _ h => h) ?_
                              refine Any.pass 29 rfl rfl rfl rfl (by kernel_rfl) (fun _ _ _ _ _ h => h) ?_
                              refine Any.pass 30 rfl rfl rfl rfl (by kernel_rfl) (fun _ _ _ _ _ h => h) ?_
                              refine Any.pass 31 rfl rfl rfl rfl (by kernel_rfl) (fun _ _ _ _ _ h => h) ?_
                              refine Any.pass 32 rfl rfl rfl rfl (by kernel_rfl) (fun _ _ _ _ _ h => h) ?_
                              refine Any.pass 33 rfl rfl rfl rfl (by kernel_rfl) (fun _ _ _ _ _ h => h) ?_
                              refine Any.takeE 34 rfl rfl rfl rfl (by kernel_rfl) (fun _ _ _ _ _ h => h) (ExS.g ((Ex.pickT rfl rfl).s)) ?_
                              refine Any.takeE 35 rfl rfl rfl rfl (by kernel_rfl) (fun _ _ _ _ _ h => h) (ExS.g ((Ex.pickT rfl rfl).s)) ?_
                              refine Any.takeE 36 rfl rfl rfl rfl (by kernel_rfl) (fun _ _ _ _ _ h => h) ((Ex.pickF rfl rfl).s) ?_
                              refine Any.done (by kernel_rfl) ?_
                              refine Run.condT rfl rfl ?_
                              refine Run.seq ?_
                              refine Run.region ?_
                              refine Ops.ex (Ex.assign rfl) rfl rfl rfl ?_
                              refine Ops.nil ?_
                              obtain rfl := Option.some.inj hf
                              exact Run.retV [vb false] rfl ⟨rfl, trivial⟩ ⟨z809, rfl, hy804_0, (St.forgetT (St.forgetT (St.forget (St.forget (St.forget (St.forget (St.forget (St.forget (St.forget (St.forget (St.forget (St.forget (St.forget hst813 11) 10) 9) 8) 7) 6) 5) 4) 3) 2) 1)))⟩
                            · replace hf := ifT (neq_F hc) hf
                              refine Any.takeE 27 rfl rfl rfl rfl (by kernel_rfl) (fun _ _ _ _ _ h => h) (ExS.g ((Ex.move rfl).s)) ?_
                              refine Any.takeE 29 rfl rfl rfl rfl (by kernel_rfl) (fun _ _ _ _ _ h => h) (ExS.g ((Ex.move rfl).s)) ?_
                              obtain ⟨i815, hi815, hf⟩ := bnd hf
                              obtain ⟨y815, hy815, hf⟩ := bnd hf
                              obtain ⟨g815, hA815, hg815⟩ := PtA.some f808 hi815
                              obtain ⟨rs815, Hr815, hO815, hP815, hcl815, hba815⟩ := ArL.open O2.mono hA803 hg815 hy815
                              obtain rfl := hO815
                              have ht815 := St.tailP (B := [blk g8 [.map (some g657), .map (some g658), .slice A659 l659.length c659, vi x660, vi x661, vb b662, vi x663] 68, ob g657 (.map E657 c657), ob g658 (.map E658 c658), orow 78 1 (.slice A659 l659.length c659) l659.length d659, orow 5 1 (.slice A810 y809.1.length c810) y809.1.length d810, orow 9 1 (.slice A744 y743.length c744) y743.length d744, blk g18 [.map (some g664), .map (some g665), .slice A666 l666.length c666, .slice A667 l667.length c667, vi x668, vi x669, vb b670, vi x671] 60, ob g664 (.map E664 c664), ob g665 (.map E665 c665), orow 52 1 (.slice A666 l666.length c666) l666.length d666, orow 86 1 (.slice A667 l667.length c667) l667.length d667] ++ Ha812) (Hb := [blk g815 [vs y815.b_, vi y815.safe_] 64] ++ Hr815) hst813 hP815
                              have hst815 : Ht w0 (frz z809 :: (blk g8 [.map (some g657), .map (some g658), .slice A659 l659.length c659, vi x660, vi x661, vb b662, vi x663] 68) :: (ob g657 (.map E657 c657)) :: (ob g658 (.map E658 c658)) :: (orow 78 1 (.slice A659 l659.length c659) l659.length d659) :: (orow 5 1 (.slice A810 y809.1.length c810) y809.1.length d810) :: (orow 9 1 (.slice A744 y743.length c744) y743.length d744) :: (blk g18 [.map (some g664), .map (some g665), .slice A666 l666.length c666, .slice A667 l667.length c667, vi x668, vi x669, vb b670, vi x671] 60) :: (ob g664 (.map E664 c664)) :: (ob g665 (.map E665 c665)) :: (orow 52 1 (.slice A666 l666.length c666) l666.length d666) :: (orow 86 1 (.slice A667 l667.length c667) l667.length d667) :: (blk g815 [vs y815.b_, vi y815.safe_] 64) :: (Ha812 ++ (Hr815 ++ X))) _ := St.mid (B := [blk g8 [.map (some g657), .map (some g658), .slice A659 l659.length c659, vi x660, vi x661, vb b662, vi x663] 68, ob g657 (.map E657 c657), ob g658 (.map E658 c658), orow 78 1 (.slice A659 l659.length c659) l659.length d659, orow 5 1 (.slice A810 y809.1.length c810) y809.1.length d810, orow 9 1 (.slice A744 y743.length c744) y743.length d744, blk g18 [.map (some g664), .map (some g665), .slice A666 l666.length c666, .slice A667 l667.length c667, vi x668, vi x669, vb b670, vi x671] 60, ob g664 (.map E664 c664), ob g665 (.map E665 c665), orow 52 1 (.slice A666 l666.length c666) l666.length d666, orow 86 1 (.slice A667 l667.length c667) l667.length d667]) (M := Ha812) (Ha := [blk g815 [vs y815.b_, vi y815.safe_] 64]) ht815
                              refine Any.takeE 30 rfl rfl rfl rfl (by kernel_rfl) (fun _ _ _ _ _ h => h) (ExS.g ((Ex.nilP hA815 rfl).s)) ?_
                              refine Any.takeE 31 rfl rfl rfl rfl (by kernel_rfl) (fun _ _ _ _ _ h => h) (ExS.g ((Ex.fieldAddr rfl Try.underlying64 rfl sz9).s)) ?_
                              refine Any.all [28, 32] (by kernel_rfl) rfl (fun i hi => ?_)
                              simp only [List.mem_cons, List.not_mem_nil, or_false] at hi
                              rcases hi with rfl | rfl
                              · skip
                                refine ⟨_, rfl, rfl, One.g <| One.of_ops rfl ?_⟩
                                refine Ops.str8 (own_slh f810 rfl (hst815.get (i := 5) rfl)) rfl Try.underlying22 Try.underlying5 Try.underlying9 rfl (Ops.stop ?_)
                                have hS0 := (⟨_, _, (Le.refl _), (St.up (St.up (St.up (St.up (St.up (St.up (St.up (St.up (St.up (St.up (St.up (St.up hst815 11 rfl) 11 rfl) 11 rfl) 11 rfl) 11 rfl) 11 rfl) 11 rfl) 11 rfl) 11 rfl) 11 rfl) 11 rfl) 11 rfl)⟩ : (fun w => ∃ ζ Y, Le z809 ζ ∧ Ht w0 (frz ζ :: (blk g8 [.map (some g657), .map (some g658), .slice A659 l659.length c659, vi x660, vi x661, vb b662, vi x663] 68) :: (ob g657 (.map E657 c657)) :: (ob g658 (.map E658 c658)) :: (orow 78 1 (.slice A659 l659.length c659) l659.length d659) :: (orow 5 1 (.slice A810 y809.1.length c810) y809.1.length d810) :: (orow 9 1 (.slice A744 y743.length c744) y743.length d744) :: (blk g18 [.map (some g664), .map (some g665), .slice A666 l666.length c666, .slice A667 l667.length c667, vi x668, vi x669, vb b670, vi x671] 60) :: (ob g664 (.map E664 c664)) :: (ob g665 (.map E665 c665)) :: (orow 52 1 (.slice A666 l666.length c666) l666.length d666) :: (orow 86 1 (.slice A667 l667.length c667) l667.length d667) :: Y) w) _)
                                refine ⟨⟨.inr (fun _ => hS0), trivial⟩, ?_⟩
                                refine Any.one 32 (by kernel_rfl) rfl rfl (One.g <| One.of_ops rfl ?_)
                                refine Ops.load rfl Try.underlying9 rfl (hst815.cell (i := 12) rfl rfl) rfl (Ops.stop ?_)
                                refine ⟨Pres.refl _ _ _, ?_⟩
                                refine Any.takeE 33 rfl rfl rfl rfl (by kernel_rfl) (fun _ _ _ _ _ h => h) (ExS.g ((Ex.neqT rfl rfl).s)) ?_
                                refine Any.takeE 34 rfl rfl rfl rfl (by kernel_rfl) (fun _ _ _ _ _ h => h) (ExS.g ((Ex.pickF rfl rfl).s)) ?_
                                refine Any.takeE 35 rfl rfl rfl rfl (by kernel_rfl) (fun _ _ _ _ _ h => h) (ExS.g ((Ex.pickT rfl rfl).s)) ?_
                                refine Any.takeE 36 rfl rfl rfl rfl (by kernel_rfl) (fun _ _ _ _ _ h => h) ((Ex.pickF rfl rfl).s) ?_
                                refine Any.done (by kernel_rfl) ?_
                                have hA818 : Ar2 z809 Γ2 ar656 ([blk g815 [vs y815.b_, vi y815.safe_] 64] ++ Hr815) := hba815 _ hm814 _ rfl
                                have hst818 : Ht w0 (frz z809 :: (blk g8 [.map (some g657), .map (some g658), .slice A659 l659.length c659, vi x660, vi x661, vb b662, vi x663] 68) :: (ob g657 (.map E657 c657)) :: (ob g658 (.map E658 c658)) :: (orow 78 1 (.slice A659 l659.length c659) l659.length d659) :: (orow 5 1 (.slice A810 y809.1.length c810) y809.1.length d810) :: (orow 9 1 (.slice A744 y743.length c744) y743.length d744) :: (blk g18 [.map (some g664), .map (some g665), .slice A666 l666.length c666, .slice A667 l667.length c667, vi x668, vi x669, vb b670, vi x671] 60) :: (ob g664 (.map E664 c664)) :: (ob g665 (.map E665 c665)) :: (orow 52 1 (.slice A666 l666.length c666) l666.length d666) :: (orow 86 1 (.slice A667 l667.length c667) l667.length d667) :: (Ha812 ++ (([blk g815 [vs y815.b_, vi y815.safe_] 64] ++ Hr815) ++ X))) _ := St.mid (B := [blk g8 [.map (some g657), .map (some g658), .slice A659 l659.length c659, vi x660, vi x661, vb b662, vi x663] 68, ob g657 (.map E657 c657), ob g658 (.map E658 c658), orow 78 1 (.slice A659 l659.length c659) l659.length d659, orow 5 1 (.slice A810 y809.1.length c810) y809.1.length d810, orow 9 1 (.slice A744 y743.length c744) y743.length d744, blk g18 [.map (some g664), .map (some g665), .slice A666 l666.length c666, .slice A667 l667.length c667, vi x668, vi x669, vb b670, vi x671] 60, ob g664 (.map E664 c664), ob g665 (.map E665 c665), orow 52 1 (.slice A666 l666.length c666) l666.length d666, orow 86 1 (.slice A667 l667.length c667) l667.length d667]) (M := [blk g815 [vs y815.b_, vi y815.safe_] 64]) (Ha := Ha812) hst815
                                refine Run.cond rfl (fun hc => ?_) (fun hc => ?_)
                                · replace hf := ifF (neq_T hc) hf
                                  refine Run.seq ?_
                                  refine Run.region ?_
                                  refine Ops.ex (Ex.assign rfl) rfl rfl rfl ?_
                                  refine Ops.nil ?_
                                  obtain rfl := Option.some.inj hf
                                  exact Run.retV [vb false] rfl ⟨rfl, trivial⟩ ⟨z809, rfl, hy804_0, (St.forgetT (St.forgetT (St.forget (St.forget (St.forget (St.forget (St.forget (St.forget (St.forget (St.forget (St.forget (St.forget (St.forget hst818 11) 10) 9) 8) 7) 6) 5) 4) 3) 2) 1)))⟩
                                · replace hf := ifT (neq_F hc) hf
                                  refine Run.skip ?_
                                  refine Run.region ?_
                                  refine Ops.ex (Ex.move rfl) rfl rfl rfl ?_
                                  refine Ops.ex (Ex.assign rfl) rfl rfl rfl ?_
                                  refine Ops.nil ?_
                                  refine Run.endBlk ?_
                                  refine Run.region ?_
                                  refine Ops.ex (Ex.add rfl rfl) rfl rfl rfl ?_
                                  refine Ops.ex (Ex.move rfl) rfl rfl rfl ?_
                                  refine Ops.nil ?_
                                  refine Run.re 136 rfl (congrArg vi (wr_succ' hl745 hc745)) ?_
                                  exact Run.sub (by exact subB_spec ⟨rfl, rfl, rfl, rfl, rfl, rfl, rfl, rfl, rfl, trivial⟩) (Run.stop ⟨y743.length - (i745 + 1), by omega, i745 + 1, a745, y809.2.2, Ha812, ([blk g815 [vs y815.b_, vi y815.safe_] 64] ++ Hr815), z809, rfl, by omega, (hnxb745 _).symm.trans hf, rfl, hz804, hy804_0, hy804_1, hy804_2, hy804_3, hA812, hA818, (St.forget hst818 5)⟩)
                              · skip
                                refine ⟨_, rfl, rfl, One.g <| One.of_ops rfl ?_⟩
                                refine Ops.load rfl Try.underlying9 rfl (hst815.cell (i := 12) rfl rfl) rfl (Ops.stop ?_)
                                refine ⟨Pres.refl _ _ _, ?_⟩
                                refine Any.one 28 (by kernel_rfl) rfl rfl (One.g <| One.of_ops rfl ?_)
                                refine Ops.str8 (own_slh f810 rfl (hst815.get (i := 5) rfl)) rfl Try.underlying22 Try.underlying5 Try.underlying9 rfl (Ops.stop ?_)
                                have hS0 := (⟨_, _, (Le.refl _), (St.up (St.up (St.up (St.up (St.up (St.up (St.up (St.up (St.up (St.up (St.up (St.up hst815 11 rfl) 11 rfl) 11 rfl) 11 rfl) 11 rfl) 11 rfl) 11 rfl) 11 rfl) 11 rfl) 11 rfl) 11 rfl) 11 rfl)⟩ : (fun w => ∃ ζ Y, Le z809 ζ ∧ Ht w0 (frz ζ :: (blk g8 [.map (some g657), .map (some g658), .slice A659 l659.length c659, vi x660, vi x661, vb b662, vi x663] 68) :: (ob g657 (.map E657 c657)) :: (ob g658 (.map E658 c658)) :: (orow 78 1 (.slice A659 l659.length c659) l659.length d659) :: (orow 5 1 (.slice A810 y809.1.length c810) y809.1.length d810) :: (orow 9 1 (.slice A744 y743.length c744) y743.length d744) :: (blk g18 [.map (some g664), .map (some g665), .slice A666 l666.length c666, .slice A667 l667.length c667, vi x668, vi x669, vb b670, vi x671] 60) :: (ob g664 (.map E664 c664)) :: (ob g665 (.map E665 c665)) :: (orow 52 1 (.slice A666 l666.length c666) l666.length d666) :: (orow 86 1 (.slice A667 l667.length c667) l667.length d667) :: Y) w) _)
                                refine ⟨⟨.inr (fun _ => hS0), trivial⟩, ?_⟩
                                refine Any.takeE 33 rfl rfl rfl rfl (by kernel_rfl) (fun _ _ _ _ _ h => h) (ExS.g ((Ex.neqT rfl rfl).s)) ?_
                                refine Any.takeE 34 rfl rfl rfl rfl (by kernel_rfl) (fun _ _ _ _ _ h => h) (ExS.g ((Ex.pickF rfl rfl).s)) ?_
                                refine Any.takeE 35 rfl rfl rfl rfl (by kernel_rfl) (fun _ _ _ _ _ h => h) (ExS.g ((Ex.pickT rfl rfl).s)) ?_
                                refine Any.takeE 36 rfl rfl rfl rfl (by kernel_rfl) (fun _ _ _ _ _ h => h) ((Ex.pickF rfl rfl).s) ?_
                                refine Any.done (by kernel_rfl) ?_
                                have hA819 : Ar2 z809 Γ2 ar656 ([blk g815 [vs y815.b_, vi y815.safe_] 64] ++ Hr815) := hba815 _ hm814 _ rfl
                                have hst819 : Ht w0 (frz z809 :: (blk g8 [.map (some g657), .map (some g658), .slice A659 l659.length c659, vi x660, vi x661, vb b662, vi x663] 68) :: (ob g657 (.map E657 c657)) :: (ob g658 (.map E658 c658)) :: (orow 78 1 (.slice A659 l659.length c659) l659.length d659) :: (orow 5 1 (.slice A810 y809.1.length c810) y809.1.length d810) :: (orow 9 1 (.slice A744 y743.length c744) y743.length d744) :: (blk g18 [.map (some g664), .map (some g665), .slice A666 l666.length c666, .slice A667 l667.length c667, vi x668, vi x669, vb b670, vi x671] 60) :: (ob g664 (.map E664 c664)) :: (ob g665 (.map E665 c665)) :: (orow 52 1 (.slice A666 l666.length c666) l666.length d666) :: (orow 86 1 (.slice A667 l667.length c667) l667.length d667) :: (Ha812 ++ (([blk g815 [vs y815.b_, vi y815.safe_] 64] ++ Hr815) ++ X))) _ := St.mid (B := [blk g8 [.map (some g657), .map (some g658), .slice A659 l659.length c659, vi x660, vi x661, vb b662, vi x663] 68, ob g657 (.map E657 c657), ob g658 (.map E658 c658), orow 78 1 (.slice A659 l659.length c659) l659.length d659, orow 5 1 (.slice A810 y809.1.length c810) y809.1.length d810, orow 9 1 (.slice A744 y743.length c744) y743.length d744, blk g18 [.map (some g664), .map (some g665), .slice A666 l666.length c666, .slice A667 l667.length c667, vi x668, vi x669, vb b670, vi x671] 60, ob g664 (.map E664 c664), ob g665 (.map E665 c665), orow 52 1 (.slice A666 l666.length c666) l666.length d666, orow 86 1 (.slice A667 l667.length c667) l667.length d667]) (M := [blk g815 [vs y815.b_, vi y815.safe_] 64]) (Ha := Ha812) hst815
                                refine Run.cond rfl (fun hc => ?_) (fun hc => ?_)
                                · replace hf := ifF (neq_T hc) hf
                                  refine Run.seq ?_
                                  refine Run.region ?_
                                  refine Ops.ex (Ex.assign rfl) rfl rfl rfl ?_
                                  refine Ops.nil ?_
                                  obtain rfl := Option.some.inj hf
                                  exact Run.retV [vb false] rfl ⟨rfl, trivial⟩ ⟨z809, rfl, hy804_0, (St.forgetT (St.forgetT (St.forget (St.forget (St.forget (St.forget (St.forget (St.forget (St.forget (St.forget (St.forget (St.forget (St.forget hst819 11) 10) 9) 8) 7) 6) 5) 4) 3) 2) 1)))⟩
                                · replace hf := ifT (neq_F hc) hf
                                  refine Run.skip ?_
                                  refine Run.region ?_
                                  refine Ops.ex (Ex.move rfl) rfl rfl rfl ?_
                                  refine Ops.ex (Ex.assign rfl) rfl rfl rfl ?_
                                  refine Ops.nil ?_
                                  refine Run.endBlk ?_
                                  refine Run.region ?_
                                  refine Ops.ex (Ex.add rfl rfl) rfl rfl rfl ?_
                                  refine Ops.ex (Ex.move rfl) rfl rfl rfl ?_
                                  refine Ops.nil ?_
                                  refine Run.re 136 rfl (congrArg vi (wr_succ' hl745 hc745)) ?_
                                  exact Run.sub (by exact subB_spec ⟨rfl, rfl, rfl, rfl, rfl, rfl, rfl, rfl, rfl, trivial⟩) (Run.stop ⟨y743.length - (i745 + 1), by omega, i745 + 1, a745, y809.2.2, Ha812, ([blk g815 [vs y815.b_, vi y815.safe_] 64] ++ Hr815), z809, rfl, by omega, (hnxb745 _).symm.trans hf, rfl, hz804, hy804_0, hy804_1, hy804_2, hy804_3, hA812, hA819, (St.forget hst819 5)⟩)
                          · replace hf := ifTb (bn_F hc) hf
                            refine Any.pass 24 rfl rfl rfl rfl (by kernel_rfl) (fun _ _ _ _ _ h => h) ?_
                            refine Any.pass 25 rfl rfl rfl rfl (by kernel_rfl) (fun _ _ _ _ _ h => h) ?_
                            refine Any.pass 26 rfl rfl rfl rfl (by kernel_rfl) (fun _ _ _ _ _ h => h) ?_
                            refine Any.passU 27 rfl rfl rfl rfl rfl (by kernel_rfl) (fun _ _ _ _ _ h => h) ?_
                            refine Any.passU 28 rfl rfl rfl rfl rfl (by kernel_rfl) (fun _ _ _ _ _ h => h) ?_
                            refine Any.passU 29 rfl rfl rfl rfl rfl (by kernel_rfl) (fun _ _ _ _ _ h => h) ?_
                            refine Any.passU 30 rfl rfl rfl rfl rfl (by kernel_rfl) (fun _ _ _ _ _ h => h) ?_
                            refine Any.passU 31 rfl rfl rfl rfl rfl (by kernel_rfl) (fun _ _ _ _ _ h => h) ?_
                            refine Any.passU 32 rfl rfl rfl rfl rfl (by kernel_rfl) (fun _ _ _ _ _ h => h) ?_
                            refine Any.passU 33 rfl rfl rfl rfl rfl (by kernel_rfl) (fun _ _ _ _ _ h => h) ?_
                            refine Any.pass 34 rfl rfl rfl rfl (by kernel_rfl) (fun _ _ _ _ _ h => h) ?_
                            refine Any.takeE 35 rfl rfl rfl rfl (by kernel_rfl) (fun _ _ _ _ _ h => h) (ExS.g ((Ex.pickF rfl rfl).s)) ?_
                            refine Any.takeE 36 rfl rfl rfl rfl (by kernel_rfl) (fun _ _ _ _ _ h => h) ((Ex.pickF rfl rfl).s) ?_
                            refine Any.done (by kernel_rfl) ?_
                            refine Run.condF rfl rfl ?_
                            refine Run.skip ?_
                            refine Run.region ?_
                            refine Ops.ex (Ex.move rfl) rfl rfl rfl ?_
                            refine Ops.ex (Ex.assign rfl) rfl rfl rfl ?_
                            refine Ops.nil ?_
                            refine Run.endBlk ?_
                            refine Run.region ?_
                            refine Ops.ex (Ex.add rfl rfl) rfl rfl rfl ?_
                            refine Ops.ex (Ex.move rfl) rfl rfl rfl ?_
                            refine Ops.nil ?_
                            refine Run.re 136 rfl (congrArg vi (wr_succ' hl745 hc745)) ?_
                            exact Run.sub (by exact subB_spec ⟨rfl, rfl, rfl, rfl, rfl, rfl, rfl, rfl, rfl, trivial⟩) (Run.stop ⟨y743.length - (i745 + 1), by omega, i745 + 1, a745, y809.2.2, Ha812, Ha803, z809, rfl, by omega, (hnxb745 _).symm.trans hf, rfl, hz804, hy804_0, hy804_1, hy804_2, hy804_3, hA812, hA803, (St.forget hst813 5)⟩)
                      · replace hf := ifFb hc hf
                        refine Any.pass 13 rfl rfl rfl rfl (by kernel_rfl) (fun _ _ _ _ _ h => h) ?_
                        refine Any.pass 14 rfl rfl rfl rfl (by kernel_rfl) (fun _ _ _ _ _ h => h) ?_
                        refine Any.takeE 15 rfl rfl rfl rfl (by kernel_rfl) (fun _ _ _ _ _ h => h) (ExS.g ((Ex.pickF rfl rfl).s)) ?_
                        refine Any.takeE 16 rfl rfl rfl rfl (by kernel_rfl) (fun _ _ _ _ _ h => h) ((Ex.pickF rfl rfl).s) ?_
                        refine Any.takeE 17 rfl rfl rfl rfl (by kernel_rfl) (fun _ _ _ _ _ h => h) ((Ex.move rfl).s) ?_
                        refine Any.takeE 18 rfl rfl rfl rfl (by kernel_rfl) (fun _ _ _ _ _ h => h) (ExS.g ((Ex.move rfl).s)) ?_
                        refine Any.takeE 19 rfl rfl rfl rfl (by kernel_rfl) (fun _ _ _ _ _ h => h) (ExS.g ((Ex.nilCheck rfl).s)) ?_
                        refine Any.takeE 20 rfl rfl rfl rfl (by kernel_rfl) (fun _ _ _ _ _ h => h) (ExS.g ((Ex.fieldAddr rfl Try.underlying60 rfl sz4).s)) ?_
                        refine Any.take 0 21 rfl rfl rfl rfl rfl (by kernel_rfl) (fun _ _ _ _ _ h => h) (ExS.g (ExS.load rfl Try.underlying4 rfl (fun w hS => by obtain ⟨_, _, _, hs⟩ := hS; exact hs.cell (i := 7) rfl rfl))) hS0 ?_
                        refine Any.takeE 22 rfl rfl rfl rfl (by kernel_rfl) (fun _ _ _ _ _ h => h) (ExS.g ((Ex.not rfl).s)) ?_
                        refine Any.takeE 23 rfl rfl rfl rfl (by kernel_rfl) (fun _ _ _ _ _ h => h) (ExS.g ((Ex.move rfl).s)) ?_
                        refine Any.case 175 rfl (fun hc => ?_) (fun hc => ?_)
                        · replace hf := ifFb (bn_T hc) hf
                          refine Any.takeE 24 rfl rfl rfl rfl (by kernel_rfl) (fun _ _ _ _ _ h => h) (ExS.g ((Ex.move rfl).s)) ?_
                          refine Any.takeE 25 rfl rfl rfl rfl (by kernel_rfl) (fun _ _ _ _ _ h => h) (ExS.g ((Ex.neqI rfl rfl).s)) ?_
                          refine Any.takeE 26 rfl rfl rfl rfl (by kernel_rfl) (fun _ _ _ _ _ h => h) (ExS.g ((Ex.move rfl).s)) ?_
                          refine Any.case 178 rfl (fun hc => ?_) (fun hc => ?_)
                          · replace hf := ifF (neq_T hc) hf
                            refine Any.pass 27 rfl rfl rfl rfl (by kernel_rfl) (fun _ _ _ _ _ h => h) ?_
                            refine Any.pass 28 rfl rfl rfl rfl (by kernel_rfl) (fun _ _ _ _ _ h => h) ?_
                            refine Any.pass 29 rfl rfl rfl rfl (by kernel_rfl) (fun _ _ _ _ _ h => h) ?_
                            refine Any.pass 30 rfl rfl rfl rfl (by kernel_rfl) (fun _ _ _ _ _ h => h) ?_
                            refine Any.pass 31 rfl rfl rfl rfl (by kernel_rfl) (fun _ _ _ _ _ h => h) ?_
                            refine Any.pass 32 rfl rfl rfl rfl (by kernel_rfl) (fun _ _ _ _ _ h => h) ?_
                            refine Any.pass 33 rfl rfl rfl rfl (by kernel_rfl) (fun _ _ _ _ _ h => h) ?_
                            refine Any.takeE 34 rfl rfl rfl rfl (by kernel_rfl) (fun _ _ _ _ _ h => h) (ExS.g ((Ex.pickT rfl rfl).s)) ?_
                            refine Any.takeE 35 rfl rfl rfl rfl (by kernel_rfl) (fun _ _ _ _ _ h => h) (ExS.g ((Ex.pickT rfl rfl).s)) ?_
                            refine Any.takeE 36 rfl rfl rfl rfl (by kernel_rfl) (fun _ _ _ _ _ h => h) ((Ex.pickF rfl rfl).s) ?_
                            refine Any.done (by kernel_rfl) ?_
                            refine Run.condT rfl rfl ?_
                            refine Run.seq ?_
                            refine Run.region ?_
                            refine Ops.ex (Ex.assign rfl) rfl rfl rfl ?_
                            refine Ops.nil ?_
                            obtain rfl := Option.some.inj hf
                            exact Run.retV [vb false] rfl ⟨rfl, trivial⟩ ⟨z809, rfl, hy804_0, (St.forgetT (St.forgetT (St.forget (St.forget (St.forget (St.forget (St.forget (St.forget (St.forget (St.forget (St.forget (St.forget (St.forget hst813 11) 10) 9) 8) 7) 6) 5) 4) 3) 2) 1)))⟩
                          · replace hf := ifT (neq_F hc) hf
                            refine Any.takeE 27 rfl rfl rfl rfl (by kernel_rfl) (fun _ _ _ _ _ h => h) (ExS.g ((Ex.move rfl).s)) ?_
                            refine Any.takeE 29 rfl rfl rfl rfl (by kernel_rfl) (fun _ _ _ _ _ h => h) (ExS.g ((Ex.move rfl).s)) ?_
                            obtain ⟨i820, hi820, hf⟩ := bnd hf
                            obtain ⟨y820, hy820, hf⟩ := bnd hf
                            obtain ⟨g820, hA820, hg820⟩ := PtA.some f808 hi820
                            obtain ⟨rs820, Hr820, hO820, hP820, hcl820, hba820⟩ := ArL.open O2.mono hA803 hg820 hy820
                            obtain rfl := hO820
                            have ht820 := St.tailP (B := [blk g8 [.map (some g657), .map (some g658), .slice A659 l659.length c659, vi x660, vi x661, vb b662, vi x663] 68, ob g657 (.map E657 c657), ob g658 (.map E658 c658), orow 78 1 (.slice A659 l659.length c659) l659.length d659, orow 5 1 (.slice A810 y809.1.length c810) y809.1.length d810, orow 9 1 (.slice A744 y743.length c744) y743.length d744, blk g18 [.map (some g664), .map (some g665), .slice A666 l666.length c666, .slice A667 l667.length c667, vi x668, vi x669, vb b670, vi x671] 60, ob g664 (.map E664 c664), ob g665 (.map E665 c665), orow 52 1 (.slice A666 l666.length c666) l666.length d666, orow 86 1 (.slice A667 l667.length c667) l667.length d667] ++ Ha812) (Hb := [blk g820 [vs y820.b_, vi y820.safe_] 64] ++ Hr820) hst813 hP820
                            have hst820 : Ht w0 (frz z809 :: (blk g8 [.map (some g657), .map (some g658), .slice A659 l659.length c659, vi x660, vi x661, vb b662, vi x663] 68) :: (ob g657 (.map E657 c657)) :: (ob g658 (.map E658 c658)) :: (orow 78 1 (.slice A659 l659.length c659) l659.length d659) :: (orow 5 1 (.slice A810 y809.1.length c810) y809.1.length d810) :: (orow 9 1 (.slice A744 y743.length c744) y743.length d744) :: (blk g18 [.map (some g664), .map (some g665), .slice A666 l666.length c666, .slice A667 l667.length c667, vi x668, vi x669, vb b670, vi x671] 60) :: (ob g664 (.map E664 c664)) :: (ob g665 (.map E665 c665)) :: (orow 52 1 (.slice A666 l666.length c666) l666.length d666) :: (orow 86 1 (.slice A667 l667.length c667) l667.length d667) :: (blk g820 [vs y820.b_, vi y820.safe_] 64) :: (Ha812 ++ (Hr820 ++ X))) _ := St.mid (B := [blk g8 [.map (some g657), .map (some g658), .slice A659 l659.length c659, vi x660, vi x661, vb b662, vi x663] 68, ob g657 (.map E657 c657), ob g658 (.map E658 c658), orow 78 1 (.slice A659 l659.length c659) l659.length d659, orow 5 1 (.slice A810 y809.1.length c810) y809.1.length d810, orow 9 1 (.slice A744 y743.length c744) y743.length d744, blk g18 [.map (some g664), .map (some g665), .slice A666 l666.length c666, .slice A667 l667.length c667, vi x668, vi x669, vb b670, vi x671] 60, ob g664 (.map E664 c664), ob g665 (.map E665 c665), orow 52 1 (.slice A666 l666.length c666) l666.length d666, orow 86 1 (.slice A667 l667.length c667) l667.length d667]) (M := Ha812) (Ha := [blk g820 [vs y820.b_, vi y820.safe_] 64]) ht820
                            refine Any.takeE 30 rfl rfl rfl rfl (by kernel_rfl) (fun _ _ _ _ _ h => h) (ExS.g ((Ex.nilP hA820 rfl).s)) ?_
                            refine Any.takeE 31 rfl rfl rfl rfl (by kernel_rfl) (fun _ _ _ _ _ h => h) (ExS.g ((Ex.fieldAddr rfl Try.underlying64 rfl sz9).s)) ?_
                            refine Any.all [28, 32] (by kernel_rfl) rfl (fun i hi => ?_)
                            simp only [List.mem_cons, List.not_mem_nil, or_false] at hi
                            rcases hi with rfl | rfl
                            · skip
                              refine ⟨_, rfl, rfl, One.g <| One.of_ops rfl ?_⟩
                              refine Ops.str8 (own_slh f810 rfl (hst820.get (i := 5) rfl)) rfl Try.underlying22 Try.underlying5 Try.underlying9 rfl (Ops.stop ?_)
                              have hS0 := (⟨_, _, (Le.refl _), (St.up (St.up (St.up (St.up (St.up (St.up (St.up (St.up (St.up (St.up (St.up (St.up hst820 11 rfl) 11 rfl) 11 rfl) 11 rfl) 11 rfl) 11 rfl) 11 rfl) 11 rfl) 11 rfl) 11 rfl) 11 rfl) 11 rfl)⟩ : (fun w => ∃ ζ Y, Le z809 ζ ∧ Ht w0 (frz ζ :: (blk g8 [.map (some g657), .map (some g658), .slice A659 l659.length c659, vi x660, vi x661, vb b662, vi x663] 68) :: (ob g657 (.map E657 c657)) :: (ob g658 (.map E658 c658)) :: (orow 78 1 (.slice A659 l659.length c659) l659.length d659) :: (orow 5 1 (.slice A810 y809.1.length c810) y809.1.length d810) :: (orow 9 1 (.slice A744 y743.length c744) y743.length d744) :: (blk g18 [.map (some g664), .map (some g665), .slice A666 l666.length c666, .slice A667 l667.length c667, vi x668, vi x669, vb b670, vi x671] 60) :: (ob g664 (.map E664 c664)) :: (ob g665 (.map E665 c665)) :: (orow 52 1 (.slice A666 l666.length c666) l666.length d666) :: (orow 86 1 (.slice A667 l667.length c667) l667.length d667) :: Y) w) _)
                              refine ⟨⟨.inr (fun _ => hS0), trivial⟩, ?_⟩
                              refine Any.one 32 (by kernel_rfl) rfl rfl (One.g <| One.of_ops rfl ?_)
                              refine Ops.load rfl Try.underlying9 rfl (hst820.cell (i := 12) rfl rfl) rfl (Ops.stop ?_)
                              refine ⟨Pres.refl _ _ _, ?_⟩
                              refine Any.takeE 33 rfl rfl rfl rfl (by kernel_rfl) (fun _ _ _ _ _ h => h) (ExS.g ((Ex.neqT rfl rfl).s)) ?_
                              refine Any.takeE 34 rfl rfl rfl rfl (by kernel_rfl) (fun _ _ _ _ _ h => h) (ExS.g ((Ex.pickF rfl rfl).s)) ?_
                              refine Any.takeE 35 rfl rfl rfl rfl (by kernel_rfl) (fun _ _ _ _ _ h => h) (ExS.g ((Ex.pickT rfl rfl).s)) ?_
                              refine Any.takeE 36 rfl rfl rfl rfl (by kernel_rfl) (fun _ _ _ _ _ h => h) ((Ex.pickF rfl rfl).s) ?_
                              refine Any.done (by kernel_rfl) ?_
                              have hA823 : Ar2 z809 Γ2 ar656 ([blk g820 [vs y820.b_, vi y820.safe_] 64] ++ Hr820) := hba820 _ hm814 _ rfl
                              have hst823 : Ht w0 (frz z809 :: (blk g8 [.map (some g657), .map (some g658), .slice A659 l659.length c659, vi x660, vi x661, vb b662, vi x663] 68) :: (ob g657 (.map E657 c657)) :: (ob g658 (.map E658 c658)) :: (orow 78 1 (.slice A659 l659.length c659) l659.length d659) :: (orow 5 1 (.slice A810 y809.1.length c810) y809.1.length d810) :: (orow 9 1 (.slice A744 y743.length c744) y743.length d744) :: (blk g18 [.map (some g664), .map (some g665), .slice A666 l666.length c666, .slice A667 l667.length c667, vi x668, vi x669, vb b670, vi x671] 60) :: (ob g664 (.map E664 c664)) :: (ob g665 (.map E665 c665)) :: (orow 52 1 (.slice A666 l666.length c666) l666.length d666) :: (orow 86 1 (.slice A667 l667.length c667) l667.length d667) :: (Ha812 ++ (([blk g820 [vs y820.b_, vi y820.safe_] 64] ++ Hr820) ++ X))) _ := St.mid (B := [blk g8 [.map (some g657), .map (some g658), .slice A659 l659.length c659, vi x660, vi x661, vb b662, vi x663] 68, ob g657 (.map E657 c657), ob g658 (.map E658 c658), orow 78 1 (.slice A659 l659.length c659) l659.length d659, orow 5 1 (.slice A810 y809.1.length c810) y809.1.length d810, orow 9 1 (.slice A744 y743.length c744) y743.length d744, blk g18 [.map (some g664), .map (some g665), .slice A666 l666.length c666, .slice A667 l667.length c667, vi x668, vi x669, vb b670, vi x671] 60, ob g664 (.map E664 c664), ob g665 (.map E665 c665), orow 52 1 (.slice A666 l666.length c666) l666.length d666, orow 86 1 (.slice A667 l667.length c667) l667.length d667]) (M := [blk g820 [vs y820.b_, vi y820.safe_] 64]) (Ha := Ha812) hst820
                              refine Run.cond rfl (fun hc => ?_) (fun hc => ?_)
                              · replace hf := ifF (neq_T hc) hf
                                refine Run.seq ?_
                                refine Run.region ?_
                                refine Ops.ex (Ex.assign rfl) rfl rfl rfl ?_
                                refine Ops.nil ?_
                                obtain rfl := Option.some.inj hf
                                exact Run.retV [vb false] rfl ⟨rfl, trivial⟩ ⟨z809, rfl, hy804_0, (St.forgetT (St.forgetT (St.forget (St.forget (St.forget (St.forget (St.forget (St.forget (St.forget (St.forget (St.forget (St.forget (St.forget hst823 11) 10) 9) 8) 7) 6) 5) 4) 3) 2) 1)))⟩
                              · replace hf := ifT (neq_F hc) hf
                                refine Run.skip ?_
                                refine Run.region ?_
                                refine Ops.ex (Ex.move rfl) rfl rfl rfl ?_
                                refine Ops.ex (Ex.assign rfl) rfl rfl rfl ?_
                                refine Ops.nil ?_
                                refine Run.endBlk ?_
                                refine Run.region ?_
                                refine Ops.ex (Ex.add rfl rfl) rfl rfl rfl ?_
                                refine Ops.ex (Ex.move rfl) rfl rfl rfl ?_
                                refine Ops.nil ?_
                                refine Run.re 136 rfl (congrArg vi (wr_succ' hl745 hc745)) ?_
                                exact Run.sub (by exact subB_spec ⟨rfl, rfl, rfl, rfl, rfl, rfl, rfl, rfl, rfl, trivial⟩) (Run.stop ⟨y743.length - (i745 + 1), by omega, i745 + 1, a745, y809.2.2, Ha812, ([blk g820 [vs y820.b_, vi y820.safe_] 64] ++ Hr820), z809, rfl, by omega, (hnxb745 _).symm.trans hf, rfl, hz804, hy804_0, hy804_1, hy804_2, hy804_3, hA812, hA823, (St.forget hst823 5)⟩)
                            · skip
                              refine ⟨_, rfl, rfl, One.g <| One.of_ops rfl ?_⟩
                              refine Ops.load rfl Try.underlying9 rfl (hst820.cell (i := 12) rfl rfl) rfl (Ops.stop ?_)
                              refine ⟨Pres.refl _ _ _, ?_⟩
                              refine Any.one 28 (by kernel_rfl) rfl rfl (One.g <| One.of_ops rfl ?_)
                              refine Ops.str8 (own_slh f810 rfl (hst820.get (i := 5) rfl)) rfl Try.underlying22 Try.underlying5 Try.underlying9 rfl (Ops.stop ?_)
                              have hS0 := (⟨_, _, (Le.refl _), (St.up (St.up (St.up (St.up (St.up (St.up (St.up (St.up (St.up (St.up (St.up (St.up hst820 11 rfl) 11 rfl) 11 rfl) 11 rfl) 11 rfl) 11 rfl) 11 rfl) 11 rfl) 11 rfl) 11 rfl) 11 rfl) 11 rfl)⟩ : (fun w => ∃ ζ Y, Le z809 ζ ∧ Ht w0 (frz ζ :: (blk g8 [.map (some g657), .map (some g658), .slice A659 l659.length c659, vi x660, vi x661, vb b662, vi x663] 68) :: (ob g657 (.map E657 c657)) :: (ob g658 (.map E658 c658)) :: (orow 78 1 (.slice A659 l659.length c659) l659.length d659) :: (orow 5 1 (.slice A810 y809.1.length c810) y809.1.length d810) :: (orow 9 1 (.slice A744 y743.length c744) y743.length d744) :: (blk g18 [.map (some g664), .map (some g665), .slice A666 l666.length c666, .slice A667 l667.length c667, vi x668, vi x669, vb b670, vi x671] 60) :: (ob g664 (.map E664 c664)) :: (ob g665 (.map E665 c665)) :: (orow 52 1 (.slice A666 l666.length c666) l666.length d666) :: (orow 86 1 (.slice A667 l667.length c667) l667.length d667) :: Y) w) _)
                              refine ⟨⟨.inr (fun _ => hS0), trivial⟩, ?_⟩
                              refine Any.takeE 33 rfl rfl rfl rfl (by kernel_rfl) (fun _ _ _ _ _ h => h) (ExS.g ((Ex.neqT rfl rfl).s)) ?_
                              refine Any.takeE 34 rfl rfl rfl rfl (by kernel_rfl) (fun _ _ _ _ _ h => h) (ExS.g ((Ex.pickF rfl rfl).s)) ?_
                              refine Any.takeE 35 rfl rfl rfl rfl (by kernel_rfl) (fun _ _ _ _ _ h => h) (ExS.g ((Ex.pickT rfl rfl).s)) ?_
                              refine Any.takeE 36 rfl rfl rfl rfl (by kernel_rfl) (fun _ _ _ _ _ h => h) ((Ex.pickF rfl rfl).s) ?_
                              refine Any.done (by kernel_rfl) ?_
                              have hA824 : Ar2 z809 Γ2 ar656 ([blk g820 [vs y820.b_, vi y820.safe_] 64] ++ Hr820) := hba820 _ hm814 _ rfl
                              have hst824 : Ht w0 (frz z809 :: (blk g8 [.map (some g657), .map (some g658), .slice A659 l659.length c659, vi x660, vi x661, vb b662, vi x663] 68) :: (ob g657 (.map E657 c657)) :: (ob g658 (.map E658 c658)) :: (orow 78 1 (.slice A659 l659.length c659) l659.length d659) :: (orow 5 1 (.slice A810 y809.1.length c810) y809.1.length d810) :: (orow 9 1 (.slice A744 y743.length c744) y743.length d744) :: (blk g18 [.map (some g664), .map (some g665), .slice A666 l666.length c666, .slice A667 l667.length c667, vi x668, vi x669, vb b670, vi x671] 60) :: (ob g664 (.map E664 c664)) :: (ob g665 (.map E665 c665)) :: (orow 52 1 (.slice A666 l666.length c666) l666.length d666) :: (orow 86 1 (.slice A667 l667.length c667) l667.length d667) :: (Ha812 ++ (([blk g820 [vs y820.b_, vi y820.safe_] 64] ++ Hr820) ++ X))) _ := St.mid (B := [blk g8 [.map (some g657), .map (some g658), .slice A659 l659.length c659, vi x660, vi x661, vb b662, vi x663] 68, ob g657 (.map E657 c657), ob g658 (.map E658 c658), orow 78 1 (.slice A659 l659.length c659) l659.length d659, orow 5 1 (.slice A810 y809.1.length c810) y809.1.length d810, orow 9 1 (.slice A744 y743.length c744) y743.length d744, blk g18 [.map (some g664), .map (some g665), .slice A666 l666.length c666, .slice A667 l667.length c667, vi x668, vi x669, vb b670, vi x671] 60, ob g664 (.map E664 c664), ob g665 (.map E665 c665), orow 52 1 (.slice A666 l666.length c666) l666.length d666, orow 86 1 (.slice A667 l667.length c667) l667.length d667]) (M := [blk g820 [vs y820.b_, vi y820.safe_] 64]) (Ha := Ha812) hst820
                              refine Run.cond rfl (fun hc => ?_) (fun hc => ?_)
                              · replace hf := ifF (neq_T hc) hf
                                refine Run.seq ?_
                                refine Run.region ?_
                                refine Ops.ex (Ex.assign rfl) rfl rfl rfl ?_
                                refine Ops.nil ?_
                                obtain rfl := Option.some.inj hf
                                exact Run.retV [vb false] rfl ⟨rfl, trivial⟩ ⟨z809, rfl, hy804_0, (St.forgetT (St.forgetT (St.forget (St.forget (St.forget (St.forget (St.forget (St.forget (St.forget (St.forget (St.forget (St.forget (St.forget hst824 11) 10) 9) 8) 7) 6) 5) 4) 3) 2) 1)))⟩
                              · replace hf := ifT (neq_F hc) hf
                                refine Run.skip ?_
                                refine Run.region ?_
                                refine Ops.ex (Ex.move rfl) rfl rfl rfl ?_
                                refine Ops.ex (Ex.assign rfl) rfl rfl rfl ?_
                                refine Ops.nil ?_
                                refine Run.endBlk ?_
                                refine Run.region ?_
                                refine Ops.ex (Ex.add rfl rfl) rfl rfl rfl ?_
                                refine Ops.ex (Ex.move rfl) rfl rfl rfl ?_
                                refine Ops.nil ?_
                                refine Run.re 136 rfl (congrArg vi (wr_succ' hl745 hc745)) ?_
                                exact Run.sub (by exact subB_spec ⟨rfl, rfl, rfl, rfl, rfl, rfl, rfl, rfl, rfl, trivial⟩) (Run.stop ⟨y743.length - (i745 + 1), by omega, i745 + 1, a745, y809.2.2, Ha812, ([blk g820 [vs y820.b_, vi y820.safe_] 64] ++ Hr820), z809, rfl, by omega, (hnxb745 _).symm.trans hf, rfl, hz804, hy804_0, hy804_1, hy804_2, hy804_3, hA812, hA824, (St.forget hst824 5)⟩)
                        · replace hf := ifTb (bn_F hc) hf
                          refine Any.pass 24 rfl rfl rfl rfl (by kernel_rfl) (fun _ _ _ _ _ h => h) ?_
                          refine Any.pass 25 rfl rfl rfl rfl (by kernel_rfl) (fun _ _ _ _ _ h => h) ?_
                          refine Any.pass 26 rfl rfl rfl rfl (by kernel_rfl) (fun _ _ _ _ _ h => h) ?_
                          refine Any.passU 27 rfl rfl rfl rfl rfl (by kernel_rfl) (fun _ _ _ _ _ h => h) ?_
                          refine Any.passU 28 rfl rfl rfl rfl rfl (by kernel_rfl) (fun _ _ _ _ _ h => h) ?_
                          refine Any.passU 29 rfl rfl rfl rfl rfl (by kernel_rfl) (fun _ _ _ _ _ h => h) ?_
                          refine Any.passU 30 rfl rfl rfl rfl rfl (by kernel_rfl) (fun _ _ _ _ _ h => h) ?_
                          refine Any.passU 31 rfl rfl rfl rfl rfl (by kernel_rfl) (fun _ _ _ _ _ h => h) ?_
                          refine Any.passU 32 rfl rfl rfl rfl rfl (by kernel_rfl) (fun _ _ _ _ _ h => h) ?_
                          refine Any.passU 33 rfl rfl rfl rfl rfl (by kernel_rfl) (fun _ _ _ _ _ h => h) ?_
                          refine Any.pass 34 rfl rfl rfl rfl (by kernel_rfl) (fun _ _ _ _ _ h => h) ?_
                          refine Any.takeE 35 rfl rfl rfl rfl (by kernel_rfl) (fun _ _ _ _ _ h => h) (ExS.g ((Ex.pickF rfl rfl).s)) ?_
                          refine Any.takeE 36 rfl rfl rfl rfl (by kernel_rfl) (fun _ _ _ _ _ h => h) ((Ex.pickF rfl rfl).s) ?_
                          refine Any.done (by kernel_rfl) ?_
                          refine Run.condF rfl rfl ?_
                          refine Run.skip ?_
                          refine Run.region ?_
                          refine Ops.ex (Ex.move rfl) rfl rfl rfl ?_
                          refine Ops.ex (Ex.assign rfl) rfl rfl rfl ?_
                          refine Ops.nil ?_
                          refine Run.endBlk ?_
                          refine Run.region ?_
                          refine Ops.ex (Ex.add rfl rfl) rfl rfl rfl ?_
                          refine Ops.ex (Ex.move rfl) rfl rfl rfl ?_
                          refine Ops.nil ?_
                          refine Run.re 136 rfl (congrArg vi (wr_succ' hl745 hc745)) ?_
                          exact Run.sub (by exact subB_spec ⟨rfl, rfl, rfl, rfl, rfl, rfl, rfl, rfl, rfl, trivial⟩) (Run.stop ⟨y743.length - (i745 + 1), by omega, i745 + 1, a745, y809.2.2, Ha812, Ha803, z809, rfl, by omega, (hnxb745 _).symm.trans hf, rfl, hz804, hy804_0, hy804_1, hy804_2, hy804_3, hA812, hA803, (St.forget hst813 5)⟩)
                · replace hf := forL_out hf (nlt_of_dec hc)
                  try dsimp only at hf
                  refine Run.exit _ rfl ?_
                  refine Run.endBlk ?_
                  refine Run.region ?_
                  refine Ops.ex (Ex.add rfl rfl) rfl rfl rfl ?_
                  refine Ops.ex (Ex.move rfl) rfl rfl rfl ?_
                  refine Ops.nil ?_
                  refine Run.re 35 rfl (congrArg vi (wr_succ' hl20 hc20)) ?_
                  exact Run.sub (by exact subB_spec ⟨rfl, rfl, rfl, rfl, rfl, trivial⟩) (Run.stop ⟨l19.length - (i20 + 1), by omega, i20 + 1, ar802, ar656, mp657, mp658, l659, x660, x661, b662, x663, mp664, mp665, l666, l667, x668, x669, b670, x671, Ha802, Ha803, g657, E657, c657, g658, E658, c658, A659, c659, d659, g664, E664, c664, g665, E665, c665, A666, c666, d666, A667, c667, d667, Γ1, Γ2, z800, rfl, by omega, (hnxb20 _).symm.trans hf, rfl, hy804_1, hy804_0, hA802, hA803, f657, f658, f659, f664, f665, f666, f667, hp3, hp4, (St.up (St.up (St.up (St.up (St.up (St.up (St.up (St.up (St.up (St.up (St.forget hst804 5) 1 rfl) 5 rfl) 9 rfl) 9 rfl) 9 rfl) 9 rfl) 9 rfl) 9 rfl) 9 rfl) 9 rfl)⟩)
    · replace hf := forL_out hf (nlt_of_dec hc)
      try dsimp only at hf
      refine Run.exit _ rfl ?_
      refine Run.seq ?_
      refine Run.region ?_
      refine Ops.ex (Ex.assign rfl) rfl rfl rfl ?_
      refine Ops.nil ?_
      obtain rfl := Option.some.inj hf
      exact Run.retV [vb true] rfl ⟨rfl, trivial⟩ ⟨z561, rfl, hy585_0, (St.forgetT (St.forgetT (St.forget (St.forget (St.forget (St.forget (St.forget (St.forget (St.forget (St.forget (St.forget hst585 9) 8) 7) 6) 5) 4) 3) 2) 1)))⟩
end
end Go.Proofs.Ytbonfgnmipmmbaa.F8
