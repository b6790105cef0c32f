/- Files: Names, FilesMany. -/
import Derived.Test.YtbonfgnmipmmbaaF4
namespace Go.Proofs.Ytbonfgnmipmmbaa.F5
open Go Go.RowKit Go.Proofs.Ytbonfgnmipmmbaa.Sx Go.Proofs.Ytbonfgnmipmmbaa.F1 Go.Proofs.Ytbonfgnmipmmbaa.F2 Go.Proofs.Ytbonfgnmipmmbaa.F3 Go.Proofs.Ytbonfgnmipmmbaa.F4
set_option linter.unusedVariables false
set_option linter.unusedSimpArgs false
noncomputable section
def go_files_Disk_Names (p0 : filesDisk) : Option (List Str) :=
  (FM.capK p0.now_).bind fun _ => some (List.map Prod.fst p0.now_)
set_option maxRecDepth 100000 in
set_option maxHeartbeats 4000000 in
theorem go_files_Disk_Names.walk {w0 w : World} {Γ1 : List Nat} {X : List Res} {z0 : Zp} {p0 : filesDisk} {g0 : Nat} {gm1 : Nat} {E1 : Array MapEntry} {c1 : Nat} {gm2 : Nat} {E2 : Array MapEntry} {c2 : Nat} {A3 : Option Addr} {c3 : Nat} {d3 : List Value} {r : List Str} (hst : Ht w0 (frz z0 :: (blk g0 [.map (some gm1), .map (some gm2), .slice A3 p0.wait_.length c3, vi p0.room_, vi p0.left_, vb p0.down_, vi p0.calls_] 68) :: (ob gm1 (.map E1 c1)) :: (ob gm2 (.map E2 c2)) :: (orow 78 1 (.slice A3 p0.wait_.length c3) p0.wait_.length d3) :: X) w) (f1 : Mr (tA Γ1) pk1 z0 E1 c1 p0.now_) (f2 : Mr (tA Γ1) pk1 z0 E2 c2 p0.safe_) (f3 : Cs (tSl (tfileschange Γ1)) z0 d3 p0.wait_) (hf : go_files_Disk_Names p0 = some r) :
    Calls Try.prog 31 #[.pointer (some ⟨g0, 0, none⟩)] w fun e w' => ∃ (z' : Zp) (A9001 : Option Addr) (c9001 : Nat) (d9001 : List Value), e = .returned (.slice A9001 r.length c9001) ∧ Le z0 z' ∧ Cs tS z' d9001 r ∧ Ht w0 (frz z' :: (blk g0 [.map (some gm1), .map (some gm2), .slice A3 p0.wait_.length c3, vi p0.room_, vi p0.left_, vb p0.down_, vi p0.calls_] 68) :: (ob gm1 (.map E1 c1)) :: (ob gm2 (.map E2 c2)) :: (orow 78 1 (.slice A3 p0.wait_.length c3) p0.wait_.length d3) :: (orow 9 1 (.slice A9001 r.length c9001) r.length d9001) :: X) w' := by
  refine calls_np Try.func31 rfl rfl ?_
  have hle0 := Le.refl z0
  unfold go_files_Disk_Names at hf
  refine Run.seq ?_
  refine Run.region ?_
  refine Ops.ex (Ex.assign rfl) rfl rfl rfl ?_
  refine Ops.nil ?_
  refine Run.seq ?_
  refine Run.region ?_
  refine Ops.ex (Ex.move rfl) rfl rfl rfl ?_
  refine Ops.ex (Ex.nilCheck rfl) rfl rfl rfl ?_
  refine Ops.ex (Ex.fieldAddr rfl Try.underlying68 rfl sz65) rfl rfl rfl ?_
  refine Ops.load rfl Try.underlying65 rfl (hst.cell (i := 1) rfl rfl) rfl ?_
  refine Ops.call rfl rfl Try.func44 (by kernel_rfl) (by kernel_rfl) rfl (FM.keys.walk _ _) ?_
  rintro _ _ ⟨rfl, rfl⟩
  refine ⟨_, rfl, ?_⟩
  obtain ⟨_, hy8, hf⟩ := bnd hf
  refine Ops.call rfl rfl Try.func43 (by kernel_rfl) (by kernel_rfl) rfl (FM.sortedKeys.walk 2 hst rfl f1 hy8) ?_
  rintro _ w8 ⟨A8, c8, d8, rfl, f8, hst8⟩
  refine ⟨_, rfl, ?_⟩
  refine Ops.ex (Ex.assign rfl) rfl rfl rfl ?_
  refine Ops.nil ?_
  obtain rfl := Option.some.inj hf
  exact Run.retV [.slice A8 (List.map Prod.fst p0.now_).length c8] rfl ⟨rfl, trivial⟩ ⟨z0, A8, c8, d8, rfl, hle0, f8, (St.up (St.up (St.up (St.up (St.up (St.up hst8 1 rfl) 5 rfl) 5 rfl) 5 rfl) 5 rfl) 5 rfl)⟩
def go_law04_FilesMany.b1 (p0 : UInt8) : (Int × List filesfile × Mp (Option Nat) × Mp (Option Nat) × List (List fileschange) × Int × Int × Bool × Int) → (Int × List filesfile × Mp (Option Nat) × Mp (Option Nat) × List (List fileschange) × Int × Int × Bool × Int → Option Bool) → Option Bool :=
  fun (x93, ar94, mp95, mp96, l97, x98, x99, b100, x101) nxb14 => if x93 < (p0.toNat : Int) then ((go_files_Disk_Create (⟨mp95, mp96, l97, x98, x99, b100, x101⟩ : filesDisk) [toU8 x93] ar94).bind fun y105 => if x93 < 64 then (if y105.1 = 0 then (if 64 ≤ x93 then (if y105.1 = 4 then (nxb14 (wr (x93 + 1), y105.2.2, y105.2.1.now_, y105.2.1.safe_, y105.2.1.wait_, y105.2.1.room_, y105.2.1.left_, y105.2.1.down_, y105.2.1.calls_)) else (some false)) else (nxb14 (wr (x93 + 1), y105.2.2, y105.2.1.now_, y105.2.1.safe_, y105.2.1.wait_, y105.2.1.room_, y105.2.1.left_, y105.2.1.down_, y105.2.1.calls_))) else (some false)) else (if 64 ≤ x93 then (if y105.1 = 4 then (nxb14 (wr (x93 + 1), y105.2.2, y105.2.1.now_, y105.2.1.safe_, y105.2.1.wait_, y105.2.1.room_, y105.2.1.left_, y105.2.1.down_, y105.2.1.calls_)) else (some false)) else (nxb14 (wr (x93 + 1), y105.2.2, y105.2.1.now_, y105.2.1.safe_, y105.2.1.wait_, y105.2.1.room_, y105.2.1.left_, y105.2.1.down_, y105.2.1.calls_)))) else ((go_files_Disk_Names (⟨mp95, mp96, l97, x98, x99, b100, x101⟩ : filesDisk)).bind fun y116 => if (y116.length : Int) = min (p0.toNat : Int) 64 then ((go_files_Disk_Create (⟨mp95, mp96, l97, x98, x99, b100, x101⟩ : filesDisk) [120] ar94).bind fun y118 => some (!(decide (y118.1 = 7)))) else (some false))
def go_law04_FilesMany (p0 : UInt8) : Option Bool :=
  (go_law04_awake).bind fun y2 => if y2 then ((go_files_Of 9).bind fun y4 => loopF (go_law04_FilesMany.b1 p0) fuel (0, ([] : List filesfile), y4.now_, y4.safe_, y4.wait_, y4.room_, y4.left_, y4.down_, y4.calls_)) else (some false)
set_option maxRecDepth 100000 in
set_option maxHeartbeats 4000000 in
theorem go_law04_FilesMany.walk {w0 w : World} {X : List Res} {z0 : Zp} {p0 : UInt8} {r : Bool} (hst : Ht w0 (frz z0 :: X) w) (hf : go_law04_FilesMany p0 = some r) :
    Calls Try.prog 9 #[vu8 p0] w fun e w' => ∃ (z' : Zp), e = .returned (vb r) ∧ Le z0 z' ∧ Ht w0 (frz z' :: X) w' := by
  refine calls_np Try.func9 rfl rfl ?_
  have hle0 := Le.refl z0
  unfold go_law04_FilesMany at hf
  refine Run.seq ?_
  refine Run.region ?_
  refine Ops.ex (Ex.assign rfl) rfl rfl rfl ?_
  refine Ops.nil ?_
  refine Run.seq ?_
  refine Run.seq ?_
  refine Run.region ?_
  obtain ⟨y2, hy2, hf⟩ := bnd hf
  refine Ops.call rfl rfl Try.func11 (by kernel_rfl) (by kernel_rfl) rfl (go_law04_awake.walk (hst := hst) (hf := hy2)) ?_
  rintro _ w2 ⟨z2, rfl, hz2, hst2⟩
  refine ⟨_, rfl, ?_⟩
  replace hle0 := hle0.trans hz2
  refine Ops.ex (Ex.not rfl) rfl rfl rfl ?_
  refine Ops.nil ?_
  refine Run.cond rfl (fun hc => ?_) (fun hc => ?_)
  · replace hf := ifFb (bn_T hc) hf
    refine Run.seq ?_
    refine Run.region ?_
    refine Ops.ex (Ex.assign rfl) rfl rfl rfl ?_
    refine Ops.nil ?_
    obtain rfl := Option.some.inj hf
    exact Run.retV [vb false] rfl ⟨rfl, trivial⟩ ⟨z2, rfl, hle0, hst2⟩
  · replace hf := ifTb (bn_F hc) hf
    refine Run.skip ?_
    refine Run.seq ?_
    refine Run.region ?_
    obtain ⟨Γ1, hΓ5⟩ : ∃ L : List Nat, L = [] := ⟨_, rfl⟩
    have hA5 : Ar1 z2 Γ1 [] [] := ArL.nil _ _ hΓ5
    have hp5 := List.prefix_rfl (l := Γ1)
    have hst5 : Ht w0 (frz z2 :: ([] ++ X)) _ := hst2
    obtain ⟨y4, hy4, hf⟩ := bnd hf
    refine Ops.call rfl rfl Try.func12 (by kernel_rfl) (by kernel_rfl) rfl (go_files_Of.walk (Γ1 := Γ1) (p0 := 9) (hst := hst5) (hf := hy4)) ?_
    rintro _ w4 ⟨z4, g6, gm7, E7, c7, gm8, E8, c8, A9, c9, d9, rfl, hz4, f7, f8, f9, hst4⟩
    refine ⟨_, rfl, ?_⟩
    replace hA5 := hA5.mono hz4
    replace hle0 := hle0.trans hz4
    refine Ops.ex (Ex.assign rfl) rfl rfl rfl ?_
    refine Ops.nil ?_
    refine Run.seq ?_
    refine Run.seq ?_
    refine Run.region ?_
    refine Ops.ex (Ex.assign rfl) rfl rfl rfl ?_
    refine Ops.nil ?_
    refine Run.block ?_
    have hm15 := Le.refl z4
    refine Run.sub (e' := [(0, vu8 p0), (3, .pointer (some ⟨g6, 0, none⟩)), (4, vi 0)]) (subB_spec ⟨rfl, rfl, rfl, trivial⟩) ?_
    refine Run.loop (fun mb14 => (fun e' w' => ∃ (x93 : Int) (ar94 : List filesfile) (mp95 : Mp (Option Nat)) (mp96 : Mp (Option Nat)) (l97 : List (List fileschange)) (x98 : Int) (x99 : Int) (b100 : Bool) (x101 : Int) (Ha94 : List Res) (g95 : Nat) (E95 : Array MapEntry) (c95 : Nat) (g96 : Nat) (E96 : Array MapEntry) (c96 : Nat) (A97 : Option Addr) (c97 : Nat) (d97 : List Value) (Γn1 : List Nat) (z92 : Zp), loopF (go_law04_FilesMany.b1 p0) mb14 (x93, ar94, mp95, mp96, l97, x98, x99, b100, x101) = some r ∧ e' = [(0, vu8 p0), (3, .pointer (some ⟨g6, 0, none⟩)), (4, vi x93)] ∧ Le z4 z92 ∧ Le z0 z92 ∧ Ar1 z92 Γn1 ar94 Ha94 ∧ Mr (tA Γn1) pk1 z92 E95 c95 mp95 ∧ Mr (tA Γn1) pk1 z92 E96 c96 mp96 ∧ Cs (tSl (tfileschange Γn1)) z92 d97 l97 ∧ Γ1 <+: Γn1 ∧ Ht w0 (frz z92 :: (ob g95 (.map E95 c95)) :: (ob g96 (.map E96 c96)) :: (orow 78 1 (.slice A97 l97.length c97) l97.length d97) :: (blk g6 [.map (some g95), .map (some g96), .slice A97 l97.length c97, vi x98, vi x99, vb b100, vi x101] 68) :: (Ha94 ++ X)) w')) fuel ⟨0, ([] : List filesfile), y4.now_, y4.safe_, y4.wait_, y4.room_, y4.left_, y4.down_, y4.calls_, [], gm7, E7, c7, gm8, E8, c8, A9, c9, d9, Γ1, z4, hf, rfl, hm15, hle0, hA5, f7, f8, f9, hp5, (St.up (St.up (St.up (St.up (St.up hst4 1 rfl) 4 rfl) 4 rfl) 4 rfl) 4 rfl)⟩ ?_
    rintro mb14 e' w103 ⟨x93, ar94, mp95, mp96, l97, x98, x99, b100, x101, Ha94, g95, E95, c95, g96, E96, c96, A97, c97, d97, Γ1, z92, hf, rfl, hz103, hy103_0, hA94, f95, f96, f97, hG1_102, hst103⟩
    replace hp5 := hp5.trans hG1_102
    obtain ⟨mb14', nxb14, rfl, hnxb14, hf⟩ := loopF_in hf
    unfold go_law04_FilesMany.b1 at hf
    try dsimp only at hf
    refine Run.seq ?_
    refine Run.seq ?_
    refine Run.region ?_
    refine Ops.ex (Ex.move rfl) rfl rfl rfl ?_
    refine Ops.ex (Ex.move rfl) rfl rfl rfl ?_
    refine Ops.ex (Ex.cu8 rfl Try.underlying5 Try.underlying3) rfl rfl rfl ?_
    refine Ops.ex (Ex.lss rfl rfl) rfl rfl rfl ?_
    refine Ops.nil ?_
    refine Run.cond rfl (fun hc => ?_) (fun hc => ?_)
    · replace hf := ifT (dec_T hc) hf
      refine Run.skip ?_
      refine Run.seq ?_
      refine Run.block ?_
      refine Run.seq ?_
      refine Run.region ?_
      refine Ops.ex (Ex.move rfl) rfl rfl rfl ?_
      refine Ops.ex (Ex.move rfl) rfl rfl rfl ?_
      refine Ops.ex (Ex.cto8 rfl Try.underlying3 Try.underlying5) rfl rfl rfl ?_
      refine Ops.sliceF [vu8 (toU8 x93)] hst103 rfl Try.underlying22 sz5 zr5 rfl rfl (by kernel_rfl) rfl (by simp [Value.oneCell']) rfl (fun A104 w104 hst104 => ?_)
      have f104 : Cs tU8 z92 [vu8 (toU8 x93)] [toU8 x93] := (Cs.cons (c := [vu8 (toU8 x93)]) rfl (Cs.nil _ _))
      refine Ops.str8 (own_slh f104 rfl (hst104.get (i := 1) rfl)) rfl Try.underlying22 Try.underlying5 Try.underlying9 rfl (?_)
      obtain ⟨y105, hy105, hf⟩ := bnd hf
      refine Ops.call rfl rfl Try.func13 (by kernel_rfl) (by kernel_rfl) rfl (go_files_Disk_Create.walk (Γ1 := Γ1) (p0 := (⟨mp95, mp96, l97, x98, x99, b100, x101⟩ : filesDisk)) (p1 := [toU8 x93]) (ar1 := ar94) (hst := (St.mid (B := [blk g6 [.map (some g95), .map (some g96), .slice A97 l97.length c97, vi x98, vi x99, vb b100, vi x101] 68, ob g95 (.map E95 c95), ob g96 (.map E96 c96), orow 78 1 (.slice A97 l97.length c97) l97.length d97]) (M := [orow 5 1 (.slice A104 [toU8 x93].length 1) [toU8 x93].length [vu8 (toU8 x93)]]) (Ha := Ha94) (St.up (St.up (St.up (St.up (St.up (St.up hst104 1 rfl) 4 rfl) 4 rfl) 4 rfl) 5 rfl) 5 rfl))) (f1 := f95) (f2 := f96) (f3 := f97) (hA1 := hA94) (Ha1 := Ha94) (hf := hy105)) ?_
      rintro _ w105 ⟨z105, gm107, E107, c107, gm108, E108, c108, A109, c109, d109, Ha114, Γ1, rfl, hz105, f107, f108, f109, hA114, hG1_115, hst105⟩
      replace hst105 : Ht w0 (frz z105 :: (blk g6 [.map (some gm107), .map (some gm108), .slice A109 y105.2.1.wait_.length c109, vi y105.2.1.room_, vi y105.2.1.left_, vb y105.2.1.down_, vi y105.2.1.calls_] 68) :: (ob gm107 (.map E107 c107)) :: (ob gm108 (.map E108 c108)) :: (orow 78 1 (.slice A109 y105.2.1.wait_.length c109) y105.2.1.wait_.length d109) :: (orow 5 1 (.slice A104 [toU8 x93].length 1) [toU8 x93].length [vu8 (toU8 x93)]) :: (Ha114 ++ X)) _ := St.mid (B := [blk g6 [.map (some gm107), .map (some gm108), .slice A109 y105.2.1.wait_.length c109, vi y105.2.1.room_, vi y105.2.1.left_, vb y105.2.1.down_, vi y105.2.1.calls_] 68, ob gm107 (.map E107 c107), ob gm108 (.map E108 c108), orow 78 1 (.slice A109 y105.2.1.wait_.length c109) y105.2.1.wait_.length d109]) (M := Ha114) (Ha := [orow 5 1 (.slice A104 [toU8 x93].length 1) [toU8 x93].length [vu8 (toU8 x93)]]) hst105
      refine ⟨_, rfl, ?_⟩
      replace f104 := f104.mono hz105
      replace hy103_0 := hy103_0.trans hz105
      replace hz103 := hz103.trans hz105
      replace hp5 := hp5.trans hG1_115
      refine Ops.ex (Ex.assign rfl) rfl rfl rfl ?_
      refine Ops.nil ?_
      refine Run.seq ?_
      refine Run.region ?_
      refine Ops.ex (Ex.move rfl) rfl rfl rfl ?_
      refine Ops.ex (Ex.lss rfl rfl) rfl rfl rfl ?_
      refine Ops.ex (Ex.move rfl) rfl rfl rfl ?_
      refine Ops.case 23 rfl (fun hc => ?_) (fun hc => ?_)
      · replace hf := ifT (dec_T hc) hf
        refine Ops.on rfl ?_
        refine Ops.ex (Ex.move rfl) rfl rfl rfl ?_
        refine Ops.on rfl ?_
        refine Ops.ex (Ex.neqI rfl rfl) rfl rfl rfl ?_
        refine Ops.ex (Ex.pickT rfl rfl) rfl rfl rfl ?_
        refine Ops.ex (Ex.move rfl) rfl rfl rfl ?_
        refine Ops.case 27 rfl (fun hc => ?_) (fun hc => ?_)
        · replace hf := ifF (neq_T hc) hf
          refine Ops.off rfl rfl ?_
          refine Ops.off rfl rfl ?_
          refine Ops.off rfl rfl ?_
          refine Ops.offU rfl rfl ?_
          refine Ops.offU rfl rfl ?_
          refine Ops.off rfl rfl ?_
          refine Ops.ex (Ex.pickT rfl rfl) rfl rfl rfl ?_
          refine Ops.nil ?_
          refine Run.condT rfl rfl ?_
          refine Run.seq ?_
          refine Run.region ?_
          refine Ops.ex (Ex.assign rfl) rfl rfl rfl ?_
          refine Ops.nil ?_
          obtain rfl := Option.some.inj hf
          exact Run.retV [vb false] rfl ⟨rfl, trivial⟩ ⟨z105, rfl, hy103_0, (St.forgetT (St.forget (St.forget (St.forget (St.forget (St.forget hst105 5) 4) 3) 2) 1))⟩
        · replace hf := ifT (neq_F hc) hf
          refine Ops.on rfl ?_
          refine Ops.ex (Ex.move rfl) rfl rfl rfl ?_
          refine Ops.on rfl ?_
          refine Ops.ex (Ex.geq rfl rfl) rfl rfl rfl ?_
          refine Ops.on rfl ?_
          refine Ops.ex (Ex.move rfl) rfl rfl rfl ?_
          refine Ops.case 30 rfl (fun hc => ?_) (fun hc => ?_)
          · replace hf := ifT (dec_T hc) hf
            refine Ops.on rfl ?_
            refine Ops.ex (Ex.move rfl) rfl rfl rfl ?_
            refine Ops.on rfl ?_
            refine Ops.ex (Ex.neqI rfl rfl) rfl rfl rfl ?_
            refine Ops.on rfl ?_
            refine Ops.ex (Ex.pickT rfl rfl) rfl rfl rfl ?_
            refine Ops.ex (Ex.pickF rfl rfl) rfl rfl rfl ?_
            refine Ops.nil ?_
            refine Run.cond rfl (fun hc => ?_) (fun hc => ?_)
            · replace hf := ifF (neq_T hc) hf
              refine Run.seq ?_
              refine Run.region ?_
              refine Ops.ex (Ex.assign rfl) rfl rfl rfl ?_
              refine Ops.nil ?_
              obtain rfl := Option.some.inj hf
              exact Run.retV [vb false] rfl ⟨rfl, trivial⟩ ⟨z105, rfl, hy103_0, (St.forgetT (St.forget (St.forget (St.forget (St.forget (St.forget hst105 5) 4) 3) 2) 1))⟩
            · replace hf := ifT (neq_F hc) hf
              refine Run.skip ?_
              refine Run.endBlk ?_
              refine Run.region ?_
              refine Ops.ex (Ex.move rfl) rfl rfl rfl ?_
              refine Ops.ex (Ex.add rfl rfl) rfl rfl rfl ?_
              refine Ops.ex (Ex.assign rfl) rfl rfl rfl ?_
              refine Ops.nil ?_
              exact Run.sub (by exact subB_spec ⟨rfl, rfl, rfl, trivial⟩) (Run.stop ⟨mb14', Nat.lt_succ_self _, wr (x93 + 1), y105.2.2, y105.2.1.now_, y105.2.1.safe_, y105.2.1.wait_, y105.2.1.room_, y105.2.1.left_, y105.2.1.down_, y105.2.1.calls_, Ha114, gm107, E107, c107, gm108, E108, c108, A109, c109, d109, Γ1, z105, (hnxb14 _).symm.trans hf, rfl, hz103, hy103_0, hA114, f107, f108, f109, hp5, (St.up (St.up (St.up (St.up (St.up (St.forget hst105 5) 1 rfl) 4 rfl) 4 rfl) 4 rfl) 4 rfl)⟩)
          · replace hf := ifF (dec_F hc) hf
            refine Ops.off rfl rfl ?_
            refine Ops.off rfl rfl ?_
            refine Ops.on rfl ?_
            refine Ops.ex (Ex.pickF rfl rfl) rfl rfl rfl ?_
            refine Ops.ex (Ex.pickF rfl rfl) rfl rfl rfl ?_
            refine Ops.nil ?_
            refine Run.condF rfl rfl ?_
            refine Run.skip ?_
            refine Run.endBlk ?_
            refine Run.region ?_
            refine Ops.ex (Ex.move rfl) rfl rfl rfl ?_
            refine Ops.ex (Ex.add rfl rfl) rfl rfl rfl ?_
            refine Ops.ex (Ex.assign rfl) rfl rfl rfl ?_
            refine Ops.nil ?_
            exact Run.sub (by exact subB_spec ⟨rfl, rfl, rfl, trivial⟩) (Run.stop ⟨mb14', Nat.lt_succ_self _, wr (x93 + 1), y105.2.2, y105.2.1.now_, y105.2.1.safe_, y105.2.1.wait_, y105.2.1.room_, y105.2.1.left_, y105.2.1.down_, y105.2.1.calls_, Ha114, gm107, E107, c107, gm108, E108, c108, A109, c109, d109, Γ1, z105, (hnxb14 _).symm.trans hf, rfl, hz103, hy103_0, hA114, f107, f108, f109, hp5, (St.up (St.up (St.up (St.up (St.up (St.forget hst105 5) 1 rfl) 4 rfl) 4 rfl) 4 rfl) 4 rfl)⟩)
      · replace hf := ifF (dec_F hc) hf
        refine Ops.off rfl rfl ?_
        refine Ops.off rfl rfl ?_
        refine Ops.ex (Ex.pickF rfl rfl) rfl rfl rfl ?_
        refine Ops.ex (Ex.move rfl) rfl rfl rfl ?_
        refine Ops.on rfl ?_
        refine Ops.ex (Ex.move rfl) rfl rfl rfl ?_
        refine Ops.on rfl ?_
        refine Ops.ex (Ex.geq rfl rfl) rfl rfl rfl ?_
        refine Ops.on rfl ?_
        refine Ops.ex (Ex.move rfl) rfl rfl rfl ?_
        refine Ops.case 30 rfl (fun hc => ?_) (fun hc => ?_)
        · replace hf := ifT (dec_T hc) hf
          refine Ops.on rfl ?_
          refine Ops.ex (Ex.move rfl) rfl rfl rfl ?_
          refine Ops.on rfl ?_
          refine Ops.ex (Ex.neqI rfl rfl) rfl rfl rfl ?_
          refine Ops.on rfl ?_
          refine Ops.ex (Ex.pickT rfl rfl) rfl rfl rfl ?_
          refine Ops.ex (Ex.pickF rfl rfl) rfl rfl rfl ?_
          refine Ops.nil ?_
          refine Run.cond rfl (fun hc => ?_) (fun hc => ?_)
          · replace hf := ifF (neq_T hc) hf
            refine Run.seq ?_
            refine Run.region ?_
            refine Ops.ex (Ex.assign rfl) rfl rfl rfl ?_
            refine Ops.nil ?_
            obtain rfl := Option.some.inj hf
            exact Run.retV [vb false] rfl ⟨rfl, trivial⟩ ⟨z105, rfl, hy103_0, (St.forgetT (St.forget (St.forget (St.forget (St.forget (St.forget hst105 5) 4) 3) 2) 1))⟩
          · replace hf := ifT (neq_F hc) hf
            refine Run.skip ?_
            refine Run.endBlk ?_
            refine Run.region ?_
            refine Ops.ex (Ex.move rfl) rfl rfl rfl ?_
            refine Ops.ex (Ex.add rfl rfl) rfl rfl rfl ?_
            refine Ops.ex (Ex.assign rfl) rfl rfl rfl ?_
            refine Ops.nil ?_
            exact Run.sub (by exact subB_spec ⟨rfl, rfl, rfl, trivial⟩) (Run.stop ⟨mb14', Nat.lt_succ_self _, wr (x93 + 1), y105.2.2, y105.2.1.now_, y105.2.1.safe_, y105.2.1.wait_, y105.2.1.room_, y105.2.1.left_, y105.2.1.down_, y105.2.1.calls_, Ha114, gm107, E107, c107, gm108, E108, c108, A109, c109, d109, Γ1, z105, (hnxb14 _).symm.trans hf, rfl, hz103, hy103_0, hA114, f107, f108, f109, hp5, (St.up (St.up (St.up (St.up (St.up (St.forget hst105 5) 1 rfl) 4 rfl) 4 rfl) 4 rfl) 4 rfl)⟩)
        · replace hf := ifF (dec_F hc) hf
          refine Ops.off rfl rfl ?_
          refine Ops.off rfl rfl ?_
          refine Ops.on rfl ?_
          refine Ops.ex (Ex.pickF rfl rfl) rfl rfl rfl ?_
          refine Ops.ex (Ex.pickF rfl rfl) rfl rfl rfl ?_
          refine Ops.nil ?_
          refine Run.condF rfl rfl ?_
          refine Run.skip ?_
          refine Run.endBlk ?_
          refine Run.region ?_
          refine Ops.ex (Ex.move rfl) rfl rfl rfl ?_
          refine Ops.ex (Ex.add rfl rfl) rfl rfl rfl ?_
          refine Ops.ex (Ex.assign rfl) rfl rfl rfl ?_
          refine Ops.nil ?_
          exact Run.sub (by exact subB_spec ⟨rfl, rfl, rfl, trivial⟩) (Run.stop ⟨mb14', Nat.lt_succ_self _, wr (x93 + 1), y105.2.2, y105.2.1.now_, y105.2.1.safe_, y105.2.1.wait_, y105.2.1.room_, y105.2.1.left_, y105.2.1.down_, y105.2.1.calls_, Ha114, gm107, E107, c107, gm108, E108, c108, A109, c109, d109, Γ1, z105, (hnxb14 _).symm.trans hf, rfl, hz103, hy103_0, hA114, f107, f108, f109, hp5, (St.up (St.up (St.up (St.up (St.up (St.forget hst105 5) 1 rfl) 4 rfl) 4 rfl) 4 rfl) 4 rfl)⟩)
    · replace hf := ifF (dec_F hc) hf
      refine Run.exit _ rfl ?_
      refine Run.seq ?_
      refine Run.region ?_
      refine Ops.ex (Ex.move rfl) rfl rfl rfl ?_
      obtain ⟨y116, hy116, hf⟩ := bnd hf
      refine Ops.call rfl rfl Try.func31 (by kernel_rfl) (by kernel_rfl) rfl (go_files_Disk_Names.walk (Γ1 := Γ1) (p0 := (⟨mp95, mp96, l97, x98, x99, b100, x101⟩ : filesDisk)) (hst := (St.up (St.up (St.up (St.up (St.up hst103 3 rfl) 3 rfl) 3 rfl) 4 rfl) 4 rfl)) (f1 := f95) (f2 := f96) (f3 := f97) (hf := hy116)) ?_
      rintro _ w116 ⟨z116, A117, c117, d117, rfl, hz116, f117, hst116⟩
      refine ⟨_, rfl, ?_⟩
      replace f95 := f95.mono hz116; replace f96 := f96.mono hz116; replace f97 := f97.mono hz116; replace hA94 := hA94.mono hz116
      replace hy103_0 := hy103_0.trans hz116
      replace hz103 := hz103.trans hz116
      refine Ops.ex (Ex.len' rfl rfl rfl Try.underlying52) rfl rfl rfl ?_
      refine Ops.ex (Ex.move rfl) rfl rfl rfl ?_
      refine Ops.ex (Ex.cu8 rfl Try.underlying5 Try.underlying3) rfl rfl rfl ?_
      refine Ops.ex (Ex.min2 rfl rfl rfl) rfl rfl rfl ?_
      refine Ops.ex (Ex.eqlI rfl rfl) rfl rfl rfl ?_
      refine Ops.ex (Ex.move rfl) rfl rfl rfl ?_
      refine Ops.case 42 rfl (fun hc => ?_) (fun hc => ?_)
      · replace hf := ifT (dec_T hc) hf
        refine Ops.on rfl ?_
        refine Ops.ex (Ex.move rfl) rfl rfl rfl ?_
        refine Ops.on rfl ?_
        obtain ⟨y118, hy118, hf⟩ := bnd hf
        refine Ops.call rfl rfl Try.func13 (by kernel_rfl) (by kernel_rfl) rfl (go_files_Disk_Create.walk (Γ1 := Γ1) (p0 := (⟨mp95, mp96, l97, x98, x99, b100, x101⟩ : filesDisk)) (p1 := [120]) (ar1 := ar94) (hst := (St.mid (B := [blk g6 [.map (some g95), .map (some g96), .slice A97 l97.length c97, vi x98, vi x99, vb b100, vi x101] 68, ob g95 (.map E95 c95), ob g96 (.map E96 c96), orow 78 1 (.slice A97 l97.length c97) l97.length d97]) (M := [orow 9 1 (.slice A117 y116.length c117) y116.length d117]) (Ha := Ha94) hst116)) (f1 := f95) (f2 := f96) (f3 := f97) (hA1 := hA94) (Ha1 := Ha94) (hf := hy118)) ?_
        rintro _ w118 ⟨z118, gm120, E120, c120, gm121, E121, c121, A122, c122, d122, Ha127, Γ1, rfl, hz118, f120, f121, f122, hA127, hG1_128, hst118⟩
        replace hst118 : Ht w0 (frz z118 :: (blk g6 [.map (some gm120), .map (some gm121), .slice A122 y118.2.1.wait_.length c122, vi y118.2.1.room_, vi y118.2.1.left_, vb y118.2.1.down_, vi y118.2.1.calls_] 68) :: (ob gm120 (.map E120 c120)) :: (ob gm121 (.map E121 c121)) :: (orow 78 1 (.slice A122 y118.2.1.wait_.length c122) y118.2.1.wait_.length d122) :: (orow 9 1 (.slice A117 y116.length c117) y116.length d117) :: (Ha127 ++ X)) _ := St.mid (B := [blk g6 [.map (some gm120), .map (some gm121), .slice A122 y118.2.1.wait_.length c122, vi y118.2.1.room_, vi y118.2.1.left_, vb y118.2.1.down_, vi y118.2.1.calls_] 68, ob gm120 (.map E120 c120), ob gm121 (.map E121 c121), orow 78 1 (.slice A122 y118.2.1.wait_.length c122) y118.2.1.wait_.length d122]) (M := Ha127) (Ha := [orow 9 1 (.slice A117 y116.length c117) y116.length d117]) hst118
        refine ⟨_, rfl, ?_⟩
        replace f117 := f117.mono hz118
        replace hy103_0 := hy103_0.trans hz118
        replace hz103 := hz103.trans hz118
        replace hp5 := hp5.trans hG1_128
        refine Ops.on rfl ?_
        refine Ops.ex (Ex.neqI rfl rfl) rfl rfl rfl ?_
        refine Ops.ex (Ex.pickT rfl rfl) rfl rfl rfl ?_
        refine Ops.ex (Ex.assign rfl) rfl rfl rfl ?_
        refine Ops.nil ?_
        obtain rfl := Option.some.inj hf
        exact Run.retV [vb (!(decide (y118.1 = 7)))] rfl ⟨rfl, trivial⟩ ⟨z118, rfl, hy103_0, (St.forgetT (St.forget (St.forget (St.forget (St.forget (St.forget hst118 5) 4) 3) 2) 1))⟩
      · replace hf := ifF (dec_F hc) hf
        refine Ops.off rfl rfl ?_
        refine Ops.off rfl rfl ?_
        refine Ops.off rfl rfl ?_
        refine Ops.ex (Ex.pickF rfl rfl) rfl rfl rfl ?_
        refine Ops.ex (Ex.assign rfl) rfl rfl rfl ?_
        refine Ops.nil ?_
        obtain rfl := Option.some.inj hf
        exact Run.retV [vb false] rfl ⟨rfl, trivial⟩ ⟨z116, rfl, hy103_0, (St.forgetT (St.forget (St.forget (St.forget (St.forget (St.forget hst116 5) 4) 3) 2) 1))⟩
end
end Go.Proofs.Ytbonfgnmipmmbaa.F5
