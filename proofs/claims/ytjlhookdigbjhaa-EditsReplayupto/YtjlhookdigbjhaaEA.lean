/- Edits: EditsDo, EditsReplay. -/
import Derived.Test.YtjlhookdigbjhaaE9
namespace Go.Proofs.Ytjlhookdigbjhaa.EA
open Go Go.RowKit Go.Proofs.Ytjlhookdigbjhaa.Sx Go.Proofs.Ytjlhookdigbjhaa.E1 Go.Proofs.Ytjlhookdigbjhaa.E2 Go.Proofs.Ytjlhookdigbjhaa.E3 Go.Proofs.Ytjlhookdigbjhaa.E4 Go.Proofs.Ytjlhookdigbjhaa.E5 Go.Proofs.Ytjlhookdigbjhaa.E6 Go.Proofs.Ytjlhookdigbjhaa.E7 Go.Proofs.Ytjlhookdigbjhaa.E8 Go.Proofs.Ytjlhookdigbjhaa.E9
set_option linter.unusedVariables false
set_option linter.unusedSimpArgs false
noncomputable section
def go_edits_Replay.b1 (i8 : Nat) (a8 : List UInt8) : (List apiRef × Int) → (List apiRef × Int → Option (editsSet × Int × Int)) → Option (editsSet × Int × Int) :=
  fun (l58, x59) nxb8 => (go_edits_Read a8).bind fun y63 => if y63.2 then ((go_edits_Do (⟨l58, x59⟩ : editsSet) y63.1).bind fun y71 => if y71.2 = 0 then (nxb8 (y71.1.Refs, y71.1.Floor)) else (some ((⟨[], 0⟩ : editsSet), 0, 10))) else (some ((⟨[], 0⟩ : editsSet), 0, 10))
def go_edits_Replay (p0 : List UInt8) : Option (editsSet × Int × Int) :=
  (go_frame_Rows p0).bind fun y3 => forL (go_edits_Replay.b1) (fun (l58, x59) => some ((⟨l58, x59⟩ : editsSet), y3.2.1, 0)) 0 y3.1 ([], 0)
set_option maxRecDepth 100000 in
set_option maxHeartbeats 4000000 in
theorem go_edits_Replay.walk {w0 w : World} {X : List Res} {z0 : Zp} {p0 : List UInt8} {A1 : Option Addr} {c1 : Nat} {r : editsSet × Int × Int} (hst : Ht w0 (frz z0 :: X) w) (f1 : Sl tU8 z0 A1 c1 p0) (hf : go_edits_Replay p0 = some r) :
    Calls Try.prog 25 #[.slice A1 p0.length c1] w fun e w' => ∃ (z' : Zp) (A9001 : Option Addr) (c9001 : Nat), e = .returned (.tuple #[.agg #[.slice A9001 r.1.Refs.length c9001, vi r.1.Floor], vi r.2.1, vi r.2.2]) ∧ Le z0 z' ∧ Sl tapiRef z' A9001 c9001 r.1.Refs ∧ Ht w0 (frz z' :: X) w' := by
  refine calls_np Try.func25 rfl rfl ?_
  have hle0 := Le.refl z0
  unfold go_edits_Replay at hf
  refine Run.seq ?_
  refine Run.region ?_
  refine Ops.allocF [.slice none 0 0, vi 0] hst zr38 rfl rfl (fun g2 w2 hst2 => ?_)
  refine Ops.ex (Ex.assign rfl) rfl rfl rfl ?_
  refine Ops.ex (Ex.assign rfl) rfl rfl rfl ?_
  refine Ops.nil ?_
  refine Run.seq ?_
  refine Run.region ?_
  refine Ops.ex (Ex.move rfl) rfl rfl rfl ?_
  obtain ⟨y3, hy3, hf⟩ := bnd hf
  refine Ops.call rfl rfl Try.func26 (by kernel_rfl) (by kernel_rfl) rfl (go_frame_Rows.walk (p0 := p0) (hst := hst2) (f1 := f1) (hf := hy3)) ?_
  rintro _ w3 ⟨z3, A4, c4, rfl, hz3, f4, hst3⟩
  refine ⟨_, rfl, ?_⟩
  replace f1 := f1.mono hz3
  replace hle0 := hle0.trans hz3
  refine Ops.ex (Ex.move rfl) rfl rfl rfl ?_
  refine Ops.ex (Ex.extract rfl rfl) rfl rfl rfl ?_
  refine Ops.ex (Ex.extract rfl rfl) rfl rfl rfl ?_
  refine Ops.ex (Ex.extract rfl rfl) rfl rfl rfl ?_
  refine Ops.ex (Ex.assign rfl) rfl rfl rfl ?_
  refine Ops.ex (Ex.assign rfl) rfl rfl rfl ?_
  refine Ops.ex (Ex.assign rfl) rfl rfl rfl ?_
  refine Ops.nil ?_
  refine Run.seq ?_
  refine Run.region ?_
  refine Ops.allocF [.slice none 0 0, vi 0] hst3 zr38 rfl rfl (fun g7 w7 hst7 => ?_)
  refine Ops.nil ?_
  refine Run.seq ?_
  refine Run.seq ?_
  refine Run.region ?_
  refine Ops.ex (Ex.move rfl) rfl rfl rfl ?_
  refine Ops.ex (Ex.len' rfl rfl rfl Try.underlying53) rfl rfl rfl ?_
  refine Ops.ex (Ex.move rfl) rfl rfl rfl ?_
  refine Ops.nil ?_
  refine Run.block ?_
  have hc8 := f4.cap
  have hm9 := Le.refl z3
  refine Run.sub (e' := [(2, .pointer (some ⟨g2, 0, none⟩)), (6, vi y3.2.1), (8, .pointer (some ⟨g7, 0, none⟩)), (21, .slice A4 y3.1.length c4), (22, vi (y3.1.length : Int)), (23, vi ((0 : Nat) : Int))]) (subB_spec ⟨rfl, rfl, rfl, rfl, rfl, rfl, trivial⟩) ?_
  refine Run.loop (fun mb8 => (fun e' w' => ∃ (i8 : Nat) (l58 : List apiRef) (x59 : Int) (A58 : Option Addr) (c58 : Nat) (z57 : Zp), mb8 = y3.1.length - i8 ∧ i8 ≤ y3.1.length ∧ forL (go_edits_Replay.b1) (fun (l58, x59) => some ((⟨l58, x59⟩ : editsSet), y3.2.1, 0)) i8 (y3.1.drop i8) (l58, x59) = some r ∧ e' = [(2, .pointer (some ⟨g2, 0, none⟩)), (6, vi y3.2.1), (8, .pointer (some ⟨g7, 0, none⟩)), (21, .slice A4 y3.1.length c4), (22, vi (y3.1.length : Int)), (23, vi (i8 : Int))] ∧ Le z3 z57 ∧ Le z0 z57 ∧ Sl tapiRef z57 A58 c58 l58 ∧ Ht w0 (frz z57 :: (blk g7 [.slice A58 l58.length c58, vi x59] 38) :: (blk g2 [.slice none 0 0, vi 0] 38) :: X) w')) y3.1.length ⟨0, [], 0, none, 0, z3, rfl, Nat.zero_le _, hf, rfl, hm9, hle0, (Sl.nil _ _), hst7⟩ ?_
  rintro _ e' w60 ⟨i8, l58, x59, A58, c58, z57, rfl, hi8, hf, rfl, hz60, hy60_0, f58, hst60⟩
  replace f4 := f4.mono hz60
  refine Run.seq ?_
  refine Run.region ?_
  refine Ops.ex (Ex.lss rfl rfl) rfl rfl rfl ?_
  refine Ops.nil ?_
  refine Run.seq ?_
  refine Run.cond rfl (fun hc => ?_) (fun hc => ?_)
  · have hl8 := lt_of_dec hc
    obtain ⟨a8, nxb8, ha8, hnxb8, hf⟩ := forL_in hf hl8
    unfold go_edits_Replay.b1 at hf
    try dsimp only at hf
    refine Run.skip ?_
    refine Run.seq ?_
    refine Run.block ?_
    refine Run.seq ?_
    refine Run.region ?_
    obtain ⟨g62, p62, o62, cs62, hA62, ho62, hr62, f62⟩ := SlH.elem f4.toH (atI_nat ha8)
    obtain ⟨A61, c61, rfl, f61⟩ := hr62
    refine Ops.ex (Ex.ixA hA62 ho62 (atI_nat ha8) rfl rfl rfl Try.underlying53 sz30) rfl rfl rfl ?_
    refine Ops.load rfl Try.underlying30 rfl ((f62.mono hst60.le) 0 _ rfl) rfl ?_
    refine Ops.ex (Ex.assign rfl) rfl rfl rfl ?_
    refine Ops.nil ?_
    refine Run.seq ?_
    refine Run.region ?_
    refine Ops.ex (Ex.move rfl) rfl rfl rfl ?_
    obtain ⟨y63, hy63, hf⟩ := bnd hf
    refine Ops.call rfl rfl Try.func19 (by kernel_rfl) (by kernel_rfl) rfl (go_edits_Read.walk (p0 := a8) (hst := hst60) (f1 := f61) (hf := hy63)) ?_
    rintro _ w63 ⟨z63, A64, c64, A65, c65, rfl, hz63, f64, f65, hst63⟩
    refine ⟨_, rfl, ?_⟩
    replace f4 := f4.mono hz63; replace f62 := f62.mono hz63; replace f61 := f61.mono hz63; replace f58 := f58.mono hz63
    replace hy60_0 := hy60_0.trans hz63
    replace hz60 := hz60.trans hz63
    refine Ops.ex (Ex.move rfl) rfl rfl rfl ?_
    refine Ops.ex (Ex.extract rfl rfl) rfl rfl rfl ?_
    refine Ops.ex (Ex.extract rfl rfl) rfl rfl rfl ?_
    refine Ops.allocF [.slice none 0 0, .slice none 0 0, vi 0] hst63 zr29 rfl rfl (fun g68 w68 hst68 => ?_)
    refine Ops.store 1 [.slice A64 y63.1.Add.length c64, .slice A65 y63.1.Drop.length c65, vi y63.1.Floor] hst68 rfl rfl rfl rfl sz29 rfl (by simp [Value.oneCell']) (by simp) (fun w69 hst69 => ?_)
    refine Ops.ex (Ex.assign rfl) rfl rfl rfl ?_
    refine Ops.nil ?_
    refine Run.seq ?_
    refine Run.seq ?_
    refine Run.region ?_
    refine Ops.ex (Ex.move rfl) rfl rfl rfl ?_
    refine Ops.ex (Ex.not rfl) rfl rfl rfl ?_
    refine Ops.nil ?_
    refine Run.cond rfl (fun hc => ?_) (fun hc => ?_)
    · replace hf := ifFb (bn_T hc) hf
      refine Run.seq ?_
      refine Run.region ?_
      refine Ops.ex (Ex.build [.slice none 0 0, vi 0] rfl Try.underlying38 zr38 (pl38 Try.underlying38) (by kernel_rfl)) rfl rfl rfl ?_
      refine Ops.store 3 [.slice none 0 0, vi 0] hst69 rfl rfl rfl rfl sz38 rfl (by simp [Value.oneCell']) (by simp) (fun w70 hst70 => ?_)
      refine Ops.ex (Ex.assign rfl) rfl rfl rfl ?_
      refine Ops.ex (Ex.assign rfl) rfl rfl rfl ?_
      refine Ops.nil ?_
      obtain rfl := Option.some.inj hf
      exact Run.retV [.agg #[.slice none 0 0, vi 0], vi 0, vi 10] rfl ⟨⟨_, rfl, run_loadN _ Try.underlying38 rfl sz38 rfl (hst70.cells (i := 3) rfl 0 2)⟩, rfl, rfl, trivial⟩ ⟨z63, none, 0, rfl, hy60_0, (Sl.nil _ _), (St.forget (St.forget (St.forget hst70 3) 2) 1)⟩
    · replace hf := ifTb (bn_F hc) hf
      refine Run.skip ?_
      refine Run.seq ?_
      refine Run.region ?_
      refine Ops.loadAgg _ rfl Try.underlying38 rfl sz38 rfl (hst69.cells (i := 2) rfl 0 2) rfl ?_
      refine Ops.loadAgg _ rfl Try.underlying29 rfl sz29 rfl (hst69.cells (i := 1) rfl 0 3) rfl ?_
      obtain ⟨y71, hy71, hf⟩ := bnd hf
      refine Ops.call rfl rfl Try.func15 (by kernel_rfl) (by kernel_rfl) rfl (go_edits_Do.walk (p0 := (⟨l58, x59⟩ : editsSet)) (p1 := y63.1) (hst := hst69) (f1 := f58) (f3 := f64) (f4 := f65) (hf := hy71)) ?_
      rintro _ w71 ⟨z71, A72, c72, rfl, hz71, f72, hst71⟩
      refine ⟨_, rfl, ?_⟩
      replace f4 := f4.mono hz71; replace f62 := f62.mono hz71; replace f61 := f61.mono hz71; replace f64 := f64.mono hz71; replace f65 := f65.mono hz71; replace f58 := f58.mono hz71
      replace hy60_0 := hy60_0.trans hz71
      replace hz60 := hz60.trans hz71
      refine Ops.ex (Ex.move rfl) rfl rfl rfl ?_
      refine Ops.ex (Ex.extract rfl rfl) rfl rfl rfl ?_
      refine Ops.ex (Ex.extract rfl rfl) rfl rfl rfl ?_
      refine Ops.allocF [.slice none 0 0, vi 0] hst71 zr38 rfl rfl (fun g75 w75 hst75 => ?_)
      refine Ops.store 1 [.slice A72 y71.1.Refs.length c72, vi y71.1.Floor] hst75 rfl rfl rfl rfl sz38 rfl (by simp [Value.oneCell']) (by simp) (fun w76 hst76 => ?_)
      refine Ops.ex (Ex.assign rfl) rfl rfl rfl ?_
      refine Ops.nil ?_
      refine Run.seq ?_
      refine Run.seq ?_
      refine Run.region ?_
      refine Ops.ex (Ex.move rfl) rfl rfl rfl ?_
      refine Ops.ex (Ex.neqI rfl rfl) rfl rfl rfl ?_
      refine Ops.nil ?_
      refine Run.cond rfl (fun hc => ?_) (fun hc => ?_)
      · replace hf := ifF (neq_T hc) hf
        refine Run.seq ?_
        refine Run.region ?_
        refine Ops.ex (Ex.build [.slice none 0 0, vi 0] rfl Try.underlying38 zr38 (pl38 Try.underlying38) (by kernel_rfl)) rfl rfl rfl ?_
        refine Ops.store 4 [.slice none 0 0, vi 0] hst76 rfl rfl rfl rfl sz38 rfl (by simp [Value.oneCell']) (by simp) (fun w77 hst77 => ?_)
        refine Ops.ex (Ex.assign rfl) rfl rfl rfl ?_
        refine Ops.ex (Ex.assign rfl) rfl rfl rfl ?_
        refine Ops.nil ?_
        obtain rfl := Option.some.inj hf
        exact Run.retV [.agg #[.slice none 0 0, vi 0], vi 0, vi 10] rfl ⟨⟨_, rfl, run_loadN _ Try.underlying38 rfl sz38 rfl (hst77.cells (i := 4) rfl 0 2)⟩, rfl, rfl, trivial⟩ ⟨z71, none, 0, rfl, hy60_0, (Sl.nil _ _), (St.forget (St.forget (St.forget (St.forget hst77 4) 3) 2) 1)⟩
      · replace hf := ifT (neq_F hc) hf
        refine Run.skip ?_
        refine Run.region ?_
        refine Ops.loadAgg _ rfl Try.underlying38 rfl sz38 rfl (hst76.cells (i := 1) rfl 0 2) rfl ?_
        refine Ops.store 3 [.slice A72 y71.1.Refs.length c72, vi y71.1.Floor] hst76 rfl rfl rfl rfl sz38 rfl (by simp [Value.oneCell']) (by simp) (fun w78 hst78 => ?_)
        refine Ops.nil ?_
        refine Run.endBlk ?_
        refine Run.region ?_
        refine Ops.ex (Ex.add rfl rfl) rfl rfl rfl ?_
        refine Ops.ex (Ex.move rfl) rfl rfl rfl ?_
        refine Ops.nil ?_
        refine Run.re 23 rfl (congrArg vi (wr_succ' hl8 hc8)) ?_
        exact Run.sub (by exact subB_spec ⟨rfl, rfl, rfl, rfl, rfl, rfl, trivial⟩) (Run.stop ⟨y3.1.length - (i8 + 1), by omega, i8 + 1, y71.1.Refs, y71.1.Floor, A72, c72, z71, rfl, by omega, (hnxb8 _).symm.trans hf, rfl, hz60, hy60_0, f72, (St.forget (St.forget hst78 2) 1)⟩)
  · replace hf := forL_out hf (nlt_of_dec hc)
    try dsimp only at hf
    refine Run.exit _ rfl ?_
    refine Run.seq ?_
    refine Run.region ?_
    refine Ops.loadAgg _ rfl Try.underlying38 rfl sz38 rfl (hst60.cells (i := 1) rfl 0 2) rfl ?_
    refine Ops.ex (Ex.move rfl) rfl rfl rfl ?_
    refine Ops.store 2 [.slice A58 l58.length c58, vi x59] hst60 rfl rfl rfl rfl sz38 rfl (by simp [Value.oneCell']) (by simp) (fun w79 hst79 => ?_)
    refine Ops.ex (Ex.assign rfl) rfl rfl rfl ?_
    refine Ops.ex (Ex.assign rfl) rfl rfl rfl ?_
    refine Ops.nil ?_
    obtain rfl := Option.some.inj hf
    exact Run.retV [.agg #[.slice A58 l58.length c58, vi x59], vi y3.2.1, vi 0] rfl ⟨⟨_, rfl, run_loadN _ Try.underlying38 rfl sz38 rfl (hst79.cells (i := 2) rfl 0 2)⟩, rfl, rfl, trivial⟩ ⟨z57, A58, c58, rfl, hy60_0, f58, (St.forget (St.forget hst79 2) 1)⟩
def go_law10_EditsDo.b2 (nxb7 : (Mp apiRef × List UInt8 × List apiRef × Int) → Option Bool) (y594 : editsSet × Int) (y600 : Mp apiRef × Int) (l608 : List UInt8) : UInt8 → (UInt8 → Option Bool) → Option Bool :=
  fun x672 nxb612 => if x672 < 8 then ((go_law10_name x672).bind fun y676 => (go_edits_Find y594.1 y676).bind fun y678 => (go_law10_name x672).bind fun y680 => if ((mget y600.1 y680).isSome) = (decide (0 ≤ y678)) then (if (mget y600.1 y680).isSome then ((atI y594.1.Refs y678).bind fun y691 => (go_law10_name x672).bind fun y697 => if y691.Name = y697 then (if (mget y600.1 y680).isSome then (nxb612 (x672 + 1)) else (if y678 = (-1) then (nxb612 (x672 + 1)) else (some false))) else (some false)) else (if (mget y600.1 y680).isSome then (nxb612 (x672 + 1)) else (if y678 = (-1) then (nxb612 (x672 + 1)) else (some false)))) else (some false)) else (nxb7 (y600.1, l608, y594.1.Refs, y594.1.Floor))
def go_law10_EditsDo.b1 (i7 : Nat) (a7 : law10Step) : (Mp apiRef × List UInt8 × List apiRef × Int) → (Mp apiRef × List UInt8 × List apiRef × Int → Option Bool) → Option Bool :=
  fun (mp570, l571, l572, x573) nxb7 => (go_law10_Step_Edit a7).bind fun y588 => (go_edits_Do (⟨l572, x573⟩ : editsSet) y588).bind fun y594 => (go_law10_do mp570 x573 y588).bind fun y600 => if y594.2 = y600.2 then (if y594.2 = 0 then ((go_edits_Bytes y588).bind fun y603 => (go_frame_Make y603).bind fun y605 => (apB 1 l571 y605.1).bind fun l608 => (go_law10_Shows y594.1 y600.1 y588.Floor).bind fun y610 => if y610 then (loopF (go_law10_EditsDo.b2 nxb7 y594 y600 l608) fuel 0) else (some false)) else (if (y594.1.Refs.length : Int) = 0 then (if y594.1.Floor = 0 then (nxb7 (mp570, l571, l572, x573)) else (some false)) else (some false))) else (some false)
def go_law10_EditsDo (p0 : List law10Step) : Option Bool :=
  (go_law10_awake).bind fun y2 => if y2 then ((cutI p0 0 (min (p0.length : Int) 40)).bind fun l6 => forL (go_law10_EditsDo.b1) (fun (mp570, l571, l572, x573) => (go_edits_Replay l571).bind fun y699 => if y699.2.2 = 0 then (if y699.2.1 = (l571.length : Int) then ((go_law10_Shows y699.1 mp570 x573).bind fun y707 => some y707) else (some false)) else (some false)) 0 l6 ([], [], [], 0)) else (some false)
set_option maxRecDepth 100000 in
set_option maxHeartbeats 4000000 in
theorem go_law10_EditsDo.walk {w0 w : World} {X : List Res} {z0 : Zp} {p0 : List law10Step} {A1 : Option Addr} {c1 : Nat} {r : Bool} (hst : Ht w0 (frz z0 :: X) w) (f1 : Sl tlaw10Step z0 A1 c1 p0) (hf : go_law10_EditsDo p0 = some r) :
    Calls Try.prog 9 #[.slice A1 p0.length c1] w fun e w' => ∃ (z' : Zp), e = .returned (vb r) ∧ Le z0 z' ∧ Ht w0 (frz z' :: X) w' := by
  refine calls_np Try.func9 rfl rfl ?_
  have hle0 := Le.refl z0
  unfold go_law10_EditsDo at hf
  refine Run.seq ?_
  refine Run.region ?_
  refine Ops.ex (Ex.assign rfl) rfl rfl rfl ?_
  refine Ops.nil ?_
  refine Run.seq ?_
  refine Run.seq ?_
  refine Run.region ?_
  obtain ⟨y2, hy2, hf⟩ := bnd hf
  refine Ops.call rfl rfl Try.func11 (by kernel_rfl) (by kernel_rfl) rfl (go_law10_awake.walk (hst := hst) (hf := hy2)) ?_
  rintro _ w2 ⟨z2, rfl, hz2, hst2⟩
  refine ⟨_, rfl, ?_⟩
  replace f1 := f1.mono hz2
  replace hle0 := hle0.trans hz2
  refine Ops.ex (Ex.not rfl) rfl rfl rfl ?_
  refine Ops.nil ?_
  refine Run.cond rfl (fun hc => ?_) (fun hc => ?_)
  · replace hf := ifFb (bn_T hc) hf
    refine Run.seq ?_
    refine Run.region ?_
    refine Ops.ex (Ex.assign rfl) rfl rfl rfl ?_
    refine Ops.nil ?_
    obtain rfl := Option.some.inj hf
    exact Run.retV [vb false] rfl ⟨rfl, trivial⟩ ⟨z2, rfl, hle0, hst2⟩
  · replace hf := ifTb (bn_F hc) hf
    refine Run.skip ?_
    refine Run.seq ?_
    refine Run.region ?_
    refine Ops.allocF [.slice none 0 0, vi 0] hst2 zr38 rfl rfl (fun g4 w4 hst4 => ?_)
    refine Ops.nil ?_
    refine Run.seq ?_
    refine Run.region ?_
    refine Ops.mkmap hst4 rfl (fun g5 w5 hst5 => ?_)
    refine Ops.ex (Ex.assign rfl) rfl rfl rfl ?_
    refine Ops.nil ?_
    refine Run.seq ?_
    refine Run.region ?_
    refine Ops.ex (Ex.assign rfl) rfl rfl rfl ?_
    refine Ops.nil ?_
    refine Run.seq ?_
    refine Run.seq ?_
    refine Run.region ?_
    refine Ops.ex (Ex.move rfl) rfl rfl rfl ?_
    refine Ops.ex (Ex.move rfl) rfl rfl rfl ?_
    refine Ops.ex (Ex.len' rfl rfl rfl Try.underlying36) rfl rfl rfl ?_
    refine Ops.ex (Ex.min2 rfl rfl rfl) rfl rfl rfl ?_
    obtain ⟨l6, hy6, hf⟩ := bnd hf
    obtain ⟨A6, c6, hA6, hB6, f6⟩ := SlH.sub f1.toH hy6
    replace f6 := f6.toS
    refine Ops.ex (Ex.subA hA6 hB6 hy6 rfl rfl Try.underlying36 sz32 rfl rfl) rfl rfl rfl ?_
    refine Ops.ex (Ex.len' rfl rfl rfl Try.underlying36) rfl rfl rfl ?_
    refine Ops.ex (Ex.move rfl) rfl rfl rfl ?_
    refine Ops.nil ?_
    refine Run.block ?_
    have hc7 := f6.cap
    have hm8 := Le.refl z2
    obtain ⟨z289, hz289, f289, hst289⟩ := St.freezeM hst5 (Mr.nil tapiRef pkA _)
    replace f1 := f1.mono hz289; replace f6 := f6.mono hz289
    replace hle0 := hle0.trans hz289
    replace hm8 := hm8.trans hz289
    have hm290 := Le.refl z289
    have hst574 := hst289.row0 5 1
    refine Run.sub (e' := [(3, .pointer (some ⟨g4, 0, none⟩)), (4, .map (some g5)), (5, .slice none 0 0), (29, .slice A6 l6.length c6), (30, vi (l6.length : Int)), (31, vi ((0 : Nat) : Int))]) (subB_spec ⟨rfl, rfl, rfl, rfl, rfl, rfl, trivial⟩) ?_
    refine Run.loop (fun mb7 => (fun e' w' => ∃ (i7 : Nat) (mp570 : Mp apiRef) (l571 : List UInt8) (l572 : List apiRef) (x573 : Int) (M570 : Option Nat) (A571 : Option Addr) (c571 : Nat) (d571 : List Value) (A572 : Option Addr) (c572 : Nat) (z569 : Zp), mb7 = l6.length - i7 ∧ i7 ≤ l6.length ∧ forL (go_law10_EditsDo.b1) (fun (mp570, l571, l572, x573) => (go_edits_Replay l571).bind fun y699 => if y699.2.2 = 0 then (if y699.2.1 = (l571.length : Int) then ((go_law10_Shows y699.1 mp570 x573).bind fun y707 => some y707) else (some false)) else (some false)) i7 (l6.drop i7) (mp570, l571, l572, x573) = some r ∧ e' = [(3, .pointer (some ⟨g4, 0, none⟩)), (4, .map M570), (5, .slice A571 l571.length c571), (29, .slice A6 l6.length c6), (30, vi (l6.length : Int)), (31, vi (i7 : Int))] ∧ Le z289 z569 ∧ Le z0 z569 ∧ Le z2 z569 ∧ Mz tapiRef pkA z569 M570 mp570 ∧ Cs tU8 z569 d571 l571 ∧ Sl tapiRef z569 A572 c572 l572 ∧ Ht w0 (frz z569 :: (orow 5 1 (.slice A571 l571.length c571) l571.length d571) :: (blk g4 [.slice A572 l572.length c572, vi x573] 38) :: X) w')) l6.length ⟨0, [], [], [], 0, (some g5), none, 0, [], none, 0, z289, rfl, Nat.zero_le _, hf, rfl, hm290, hle0, hm8, f289, (Cs.nil _ _), (Sl.nil _ _), hst574⟩ ?_
    rintro _ e' w576 ⟨i7, mp570, l571, l572, x573, M570, A571, c571, d571, A572, c572, z569, rfl, hi7, hf, rfl, hz576, hy576_0, hy576_1, f570, f571, f572, hst576⟩
    replace f6 := f6.mono hz576
    refine Run.seq ?_
    refine Run.region ?_
    refine Ops.ex (Ex.lss rfl rfl) rfl rfl rfl ?_
    refine Ops.nil ?_
    refine Run.seq ?_
    refine Run.cond rfl (fun hc => ?_) (fun hc => ?_)
    · have hl7 := lt_of_dec hc
      obtain ⟨a7, nxb7, ha7, hnxb7, hf⟩ := forL_in hf hl7
      unfold go_law10_EditsDo.b1 at hf
      try dsimp only at hf
      refine Run.skip ?_
      refine Run.seq ?_
      refine Run.block ?_
      refine Run.seq ?_
      refine Run.region ?_
      obtain ⟨g585, p585, o585, cs585, hA585, ho585, hr585, f585⟩ := SlH.elem f6.toH (atI_nat ha7)
      obtain ⟨A577, c577, A578, c578, rfl, f577, f578⟩ := hr585
      refine Ops.ex (Ex.ixA hA585 ho585 (atI_nat ha7) rfl rfl rfl Try.underlying36 sz32) rfl rfl rfl ?_
      refine Ops.loadAgg [.slice A577 a7.Add.length c577, .slice A578 a7.Drop.length c578, vu8 a7.Floor, vb a7.Odd, vs a7.Any.Name, vi a7.Any.Kind, vi a7.Any.From, vi a7.Any.To] rfl Try.underlying32 rfl sz32 rfl (cells_of_zc rfl (f585.mono hst576.le)) rfl ?_
      refine Ops.allocF [.slice none 0 0, .slice none 0 0, vu8 0, vb false, vs [], vi 0, vi 0, vi 0] hst576 zr32 rfl rfl (fun g586 w586 hst586 => ?_)
      refine Ops.store 1 [.slice A577 a7.Add.length c577, .slice A578 a7.Drop.length c578, vu8 a7.Floor, vb a7.Odd, vs a7.Any.Name, vi a7.Any.Kind, vi a7.Any.From, vi a7.Any.To] hst586 rfl rfl rfl rfl sz32 rfl (by simp [Value.oneCell']) (by simp) (fun w587 hst587 => ?_)
      refine Ops.nil ?_
      refine Run.seq ?_
      refine Run.region ?_
      refine Ops.loadAgg _ rfl Try.underlying32 rfl sz32 rfl (hst587.cells (i := 1) rfl 0 8) rfl ?_
      obtain ⟨y588, hy588, hf⟩ := bnd hf
      refine Ops.call rfl rfl Try.func12 (by kernel_rfl) (by kernel_rfl) rfl (go_law10_Step_Edit.walk (p0 := a7) (hst := hst587) (f1 := f577) (f2 := f578) (hf := hy588)) ?_
      rintro _ w588 ⟨z588, A589, c589, A590, c590, rfl, hz588, f589, f590, hst588⟩
      refine ⟨_, rfl, ?_⟩
      replace f570 := f570.mono hz588; replace f6 := f6.mono hz588; replace f585 := f585.mono hz588; replace f577 := f577.mono hz588; replace f578 := f578.mono hz588; replace f571 := f571.mono hz588; replace f572 := f572.mono hz588
      replace hy576_0 := hy576_0.trans hz588
      replace hy576_1 := hy576_1.trans hz588
      replace hz576 := hz576.trans hz588
      refine Ops.allocF [.slice none 0 0, .slice none 0 0, vi 0] hst588 zr29 rfl rfl (fun g592 w592 hst592 => ?_)
      refine Ops.store 1 [.slice A589 y588.Add.length c589, .slice A590 y588.Drop.length c590, vi y588.Floor] hst592 rfl rfl rfl rfl sz29 rfl (by simp [Value.oneCell']) (by simp) (fun w593 hst593 => ?_)
      refine Ops.nil ?_
      refine Run.seq ?_
      refine Run.region ?_
      refine Ops.loadAgg _ rfl Try.underlying38 rfl sz38 rfl (hst593.cells (i := 4) rfl 0 2) rfl ?_
      refine Ops.loadAgg _ rfl Try.underlying29 rfl sz29 rfl (hst593.cells (i := 1) rfl 0 3) rfl ?_
      obtain ⟨y594, hy594, hf⟩ := bnd hf
      refine Ops.call rfl rfl Try.func15 (by kernel_rfl) (by kernel_rfl) rfl (go_edits_Do.walk (p0 := (⟨l572, x573⟩ : editsSet)) (p1 := y588) (hst := hst593) (f1 := f572) (f3 := f589) (f4 := f590) (hf := hy594)) ?_
      rintro _ w594 ⟨z594, A595, c595, rfl, hz594, f595, hst594⟩
      refine ⟨_, rfl, ?_⟩
      replace f570 := f570.mono hz594; replace f6 := f6.mono hz594; replace f585 := f585.mono hz594; replace f577 := f577.mono hz594; replace f578 := f578.mono hz594; replace f589 := f589.mono hz594; replace f590 := f590.mono hz594; replace f572 := f572.mono hz594; replace f571 := f571.mono hz594
      replace hy576_0 := hy576_0.trans hz594
      replace hy576_1 := hy576_1.trans hz594
      replace hz576 := hz576.trans hz594
      refine Ops.ex (Ex.move rfl) rfl rfl rfl ?_
      refine Ops.ex (Ex.extract rfl rfl) rfl rfl rfl ?_
      refine Ops.ex (Ex.extract rfl rfl) rfl rfl rfl ?_
      refine Ops.allocF [.slice none 0 0, vi 0] hst594 zr38 rfl rfl (fun g598 w598 hst598 => ?_)
      refine Ops.store 1 [.slice A595 y594.1.Refs.length c595, vi y594.1.Floor] hst598 rfl rfl rfl rfl sz38 rfl (by simp [Value.oneCell']) (by simp) (fun w599 hst599 => ?_)
      refine Ops.ex (Ex.assign rfl) rfl rfl rfl ?_
      refine Ops.nil ?_
      refine Run.seq ?_
      refine Run.region ?_
      refine Ops.ex (Ex.move rfl) rfl rfl rfl ?_
      refine Ops.ex (Ex.fieldAddr rfl Try.underlying38 rfl sz3) rfl rfl rfl ?_
      refine Ops.load rfl Try.underlying3 rfl (hst599.cell (i := 5) rfl rfl) rfl ?_
      refine Ops.loadAgg _ rfl Try.underlying29 rfl sz29 rfl (hst599.cells (i := 2) rfl 0 3) rfl ?_
      obtain ⟨y600, hy600, hf⟩ := bnd hf
      refine Ops.call rfl rfl Try.func21 (by kernel_rfl) (by kernel_rfl) rfl (go_law10_do.walk (p0 := mp570) (p1 := x573) (p2 := y588) (hst := hst599) (f1 := f570) (f3 := f589) (f4 := f590) (hf := hy600)) ?_
      rintro _ w600 ⟨z600, M601, rfl, hz600, f601, hst600⟩
      refine ⟨_, rfl, ?_⟩
      replace f570 := f570.mono hz600; replace f6 := f6.mono hz600; replace f585 := f585.mono hz600; replace f577 := f577.mono hz600; replace f578 := f578.mono hz600; replace f589 := f589.mono hz600; replace f590 := f590.mono hz600; replace f572 := f572.mono hz600; replace f595 := f595.mono hz600; replace f571 := f571.mono hz600
      replace hy576_0 := hy576_0.trans hz600
      replace hy576_1 := hy576_1.trans hz600
      replace hz576 := hz576.trans hz600
      refine Ops.ex (Ex.move rfl) rfl rfl rfl ?_
      refine Ops.ex (Ex.extract rfl rfl) rfl rfl rfl ?_
      refine Ops.ex (Ex.extract rfl rfl) rfl rfl rfl ?_
      refine Ops.ex (Ex.assign rfl) rfl rfl rfl ?_
      refine Ops.ex (Ex.assign rfl) rfl rfl rfl ?_
      refine Ops.nil ?_
      refine Run.seq ?_
      refine Run.seq ?_
      refine Run.region ?_
      refine Ops.ex (Ex.move rfl) rfl rfl rfl ?_
      refine Ops.ex (Ex.move rfl) rfl rfl rfl ?_
      refine Ops.ex (Ex.neqI rfl rfl) rfl rfl rfl ?_
      refine Ops.nil ?_
      refine Run.cond rfl (fun hc => ?_) (fun hc => ?_)
      · replace hf := ifF (neq_T hc) hf
        refine Run.seq ?_
        refine Run.region ?_
        refine Ops.ex (Ex.assign rfl) rfl rfl rfl ?_
        refine Ops.nil ?_
        obtain rfl := Option.some.inj hf
        exact Run.retV [vb false] rfl ⟨rfl, trivial⟩ ⟨z600, rfl, hy576_0, (St.forget (St.forget (St.forget (St.forget (St.forget hst600 5) 4) 3) 2) 1)⟩
      · replace hf := ifT (neq_F hc) hf
        refine Run.skip ?_
        refine Run.seq ?_
        refine Run.seq ?_
        refine Run.region ?_
        refine Ops.ex (Ex.move rfl) rfl rfl rfl ?_
        refine Ops.ex (Ex.neqI rfl rfl) rfl rfl rfl ?_
        refine Ops.nil ?_
        refine Run.cond rfl (fun hc => ?_) (fun hc => ?_)
        · replace hf := ifF (neq_T hc) hf
          refine Run.seq ?_
          refine Run.seq ?_
          refine Run.region ?_
          refine Ops.ex (Ex.fieldAddr rfl Try.underlying38 rfl sz26) rfl rfl rfl ?_
          refine Ops.load rfl Try.underlying26 rfl (hst600.cell (i := 1) rfl rfl) rfl ?_
          refine Ops.ex (Ex.len' rfl rfl rfl Try.underlying26) rfl rfl rfl ?_
          refine Ops.ex (Ex.neqI rfl rfl) rfl rfl rfl ?_
          refine Ops.ex (Ex.move rfl) rfl rfl rfl ?_
          refine Ops.case 60 rfl (fun hc => ?_) (fun hc => ?_)
          · replace hf := ifF (neq_T hc) hf
            refine Ops.off rfl rfl ?_
            refine Ops.off rfl rfl ?_
            refine Ops.off rfl rfl ?_
            refine Ops.ex (Ex.pickT rfl rfl) rfl rfl rfl ?_
            refine Ops.nil ?_
            refine Run.condT rfl rfl ?_
            refine Run.seq ?_
            refine Run.region ?_
            refine Ops.ex (Ex.assign rfl) rfl rfl rfl ?_
            refine Ops.nil ?_
            obtain rfl := Option.some.inj hf
            exact Run.retV [vb false] rfl ⟨rfl, trivial⟩ ⟨z600, rfl, hy576_0, (St.forget (St.forget (St.forget (St.forget (St.forget hst600 5) 4) 3) 2) 1)⟩
          · replace hf := ifT (neq_F hc) hf
            refine Ops.on rfl ?_
            refine Ops.ex (Ex.fieldAddr rfl Try.underlying38 rfl sz3) rfl rfl rfl ?_
            refine Ops.on rfl ?_
            refine Ops.load rfl Try.underlying3 rfl (hst600.cell (i := 1) rfl rfl) rfl ?_
            refine Ops.on rfl ?_
            refine Ops.ex (Ex.neqI rfl rfl) rfl rfl rfl ?_
            refine Ops.ex (Ex.pickF rfl rfl) rfl rfl rfl ?_
            refine Ops.nil ?_
            refine Run.cond rfl (fun hc => ?_) (fun hc => ?_)
            · replace hf := ifF (neq_T hc) hf
              refine Run.seq ?_
              refine Run.region ?_
              refine Ops.ex (Ex.assign rfl) rfl rfl rfl ?_
              refine Ops.nil ?_
              obtain rfl := Option.some.inj hf
              exact Run.retV [vb false] rfl ⟨rfl, trivial⟩ ⟨z600, rfl, hy576_0, (St.forget (St.forget (St.forget (St.forget (St.forget hst600 5) 4) 3) 2) 1)⟩
            · replace hf := ifT (neq_F hc) hf
              refine Run.skip ?_
              refine Run.exit _ rfl ?_
              refine Run.region ?_
              refine Ops.ex (Ex.add rfl rfl) rfl rfl rfl ?_
              refine Ops.ex (Ex.move rfl) rfl rfl rfl ?_
              refine Ops.nil ?_
              refine Run.re 31 rfl (congrArg vi (wr_succ' hl7 hc7)) ?_
              exact Run.sub (by exact subB_spec ⟨rfl, rfl, rfl, rfl, rfl, rfl, trivial⟩) (Run.stop ⟨l6.length - (i7 + 1), by omega, i7 + 1, mp570, l571, l572, x573, M570, A571, c571, d571, A572, c572, z600, rfl, by omega, (hnxb7 _).symm.trans hf, rfl, hz576, hy576_0, hy576_1, f570, f571, f572, (St.forget (St.forget (St.forget hst600 3) 2) 1)⟩)
        · replace hf := ifT (neq_F hc) hf
          refine Run.skip ?_
          refine Run.seq ?_
          refine Run.region ?_
          refine Ops.loadAgg _ rfl Try.underlying29 rfl sz29 rfl (hst600.cells (i := 2) rfl 0 3) rfl ?_
          obtain ⟨y603, hy603, hf⟩ := bnd hf
          refine Ops.call rfl rfl Try.func18 (by kernel_rfl) (by kernel_rfl) rfl (go_edits_Bytes.walk (p0 := y588) (hst := hst600) (f1 := f589) (f2 := f590) (hf := hy603)) ?_
          rintro _ w603 ⟨z603, A604, c604, rfl, hz603, f604, hst603⟩
          refine ⟨_, rfl, ?_⟩
          replace f570 := f570.mono hz603; replace f6 := f6.mono hz603; replace f585 := f585.mono hz603; replace f577 := f577.mono hz603; replace f578 := f578.mono hz603; replace f589 := f589.mono hz603; replace f590 := f590.mono hz603; replace f572 := f572.mono hz603; replace f595 := f595.mono hz603; replace f601 := f601.mono hz603; replace f571 := f571.mono hz603
          replace hy576_0 := hy576_0.trans hz603
          replace hy576_1 := hy576_1.trans hz603
          replace hz576 := hz576.trans hz603
          obtain ⟨y605, hy605, hf⟩ := bnd hf
          refine Ops.call rfl rfl Try.func22 (by kernel_rfl) (by kernel_rfl) rfl (go_frame_Make.walk (p0 := y603) (hst := hst603) (f1 := f604) (hf := hy605)) ?_
          rintro _ w605 ⟨z605, A606, c606, rfl, hz605, f606, hst605⟩
          refine ⟨_, rfl, ?_⟩
          replace f570 := f570.mono hz605; replace f6 := f6.mono hz605; replace f585 := f585.mono hz605; replace f577 := f577.mono hz605; replace f578 := f578.mono hz605; replace f589 := f589.mono hz605; replace f590 := f590.mono hz605; replace f572 := f572.mono hz605; replace f595 := f595.mono hz605; replace f601 := f601.mono hz605; replace f604 := f604.mono hz605; replace f571 := f571.mono hz605
          replace hy576_0 := hy576_0.trans hz605
          replace hy576_1 := hy576_1.trans hz605
          replace hz576 := hz576.trans hz605
          refine Ops.ex (Ex.move rfl) rfl rfl rfl ?_
          refine Ops.ex (Ex.extract rfl rfl) rfl rfl rfl ?_
          refine Ops.ex (Ex.extract rfl rfl) rfl rfl rfl ?_
          refine Ops.ex (Ex.assign rfl) rfl rfl rfl ?_
          refine Ops.ex (Ex.assign rfl) rfl rfl rfl ?_
          refine Ops.nil ?_
          refine Run.seq ?_
          refine Run.region ?_
          refine Ops.ex (Ex.move rfl) rfl rfl rfl ?_
          refine Ops.ex (Ex.move rfl) rfl rfl rfl ?_
          obtain ⟨l608, hy608, hf⟩ := bnd hf
          refine Ops.app 4 hst605 rfl f571 rfl (f606.at_ hst605) rfl hy608 rfl rfl rfl rfl Try.underlying30 inf5 rfl (by decide) (by decide) rfl (fun A608 c608 d608 w608 f608 hst608 => ?_)
          refine Ops.ex (Ex.assign rfl) rfl rfl rfl ?_
          refine Ops.nil ?_
          refine Run.seq ?_
          refine Run.region ?_
          refine Ops.loadAgg _ rfl Try.underlying38 rfl sz38 rfl (hst608.cells (i := 1) rfl 0 2) rfl ?_
          refine Ops.ex (Ex.move rfl) rfl rfl rfl ?_
          refine Ops.store 5 [.slice A595 y594.1.Refs.length c595, vi y594.1.Floor] hst608 rfl rfl rfl rfl sz38 rfl (by simp [Value.oneCell']) (by simp) (fun w609 hst609 => ?_)
          refine Ops.ex (Ex.assign rfl) rfl rfl rfl ?_
          refine Ops.nil ?_
          refine Run.seq ?_
          refine Run.seq ?_
          refine Run.region ?_
          refine Ops.loadAgg _ rfl Try.underlying38 rfl sz38 rfl (hst609.cells (i := 5) rfl 0 2) rfl ?_
          refine Ops.ex (Ex.move rfl) rfl rfl rfl ?_
          refine Ops.ex (Ex.fieldAddr rfl Try.underlying29 rfl sz3) rfl rfl rfl ?_
          refine Ops.load rfl Try.underlying3 rfl (hst609.cell (i := 2) rfl rfl) rfl ?_
          obtain ⟨y610, hy610, hf⟩ := bnd hf
          refine Ops.call rfl rfl Try.func23 (by kernel_rfl) (by kernel_rfl) rfl (go_law10_Shows.walk (p0 := y594.1) (p1 := y600.1) (p2 := y588.Floor) (hst := hst609) (f1 := f595) (f3 := f601) (hf := hy610)) ?_
          rintro _ w610 ⟨z610, rfl, hz610, hst610⟩
          refine ⟨_, rfl, ?_⟩
          replace f601 := f601.mono hz610; replace f6 := f6.mono hz610; replace f585 := f585.mono hz610; replace f577 := f577.mono hz610; replace f578 := f578.mono hz610; replace f589 := f589.mono hz610; replace f590 := f590.mono hz610; replace f572 := f572.mono hz610; replace f595 := f595.mono hz610; replace f570 := f570.mono hz610; replace f604 := f604.mono hz610; replace f606 := f606.mono hz610; replace f608 := f608.mono hz610
          replace hy576_0 := hy576_0.trans hz610
          replace hy576_1 := hy576_1.trans hz610
          replace hz576 := hz576.trans hz610
          refine Ops.ex (Ex.not rfl) rfl rfl rfl ?_
          refine Ops.nil ?_
          refine Run.cond rfl (fun hc => ?_) (fun hc => ?_)
          · replace hf := ifFb (bn_T hc) hf
            refine Run.seq ?_
            refine Run.region ?_
            refine Ops.ex (Ex.assign rfl) rfl rfl rfl ?_
            refine Ops.nil ?_
            obtain rfl := Option.some.inj hf
            exact Run.retV [vb false] rfl ⟨rfl, trivial⟩ ⟨z610, rfl, hy576_0, (St.forget (St.forget (St.forget (St.forget (St.forget hst610 5) 4) 3) 2) 1)⟩
          · replace hf := ifTb (bn_F hc) hf
            refine Run.skip ?_
            refine Run.seq ?_
            refine Run.region ?_
            refine Ops.ex (Ex.assign rfl) rfl rfl rfl ?_
            refine Ops.nil ?_
            refine Run.block ?_
            have hm613 := Le.refl z610
            refine Run.sub (e' := [(3, .pointer (some ⟨g4, 0, none⟩)), (4, .map M601), (5, .slice A608 l608.length c608), (15, vu8 0), (29, .slice A6 l6.length c6), (30, vi (l6.length : Int)), (31, vi (i7 : Int))]) (subB_spec ⟨rfl, rfl, rfl, rfl, rfl, rfl, rfl, trivial⟩) ?_
            refine Run.loop (fun mb612 => (fun e' w' => ∃ (x672 : UInt8) (z671 : Zp), loopF (go_law10_EditsDo.b2 nxb7 y594 y600 l608) mb612 x672 = some r ∧ e' = [(3, .pointer (some ⟨g4, 0, none⟩)), (4, .map M601), (5, .slice A608 l608.length c608), (15, vu8 x672), (29, .slice A6 l6.length c6), (30, vi (l6.length : Int)), (31, vi (i7 : Int))] ∧ Le z610 z671 ∧ Le z0 z671 ∧ Le z2 z671 ∧ Le z289 z671 ∧ Ht w0 (frz z671 :: (orow 5 1 (.slice A608 l608.length c608) l608.length d608) :: (blk g4 [.slice A595 y594.1.Refs.length c595, vi y594.1.Floor] 38) :: X) w')) fuel ⟨0, z610, hf, rfl, hm613, hy576_0, hy576_1, hz576, (St.forget (St.forget (St.forget hst610 3) 2) 1)⟩ ?_
            rintro mb612 e' w673 ⟨x672, z671, hf, rfl, hz673, hy673_0, hy673_1, hy673_2, hst673⟩
            replace f601 := f601.mono hz673; replace f6 := f6.mono hz673; replace f608 := f608.mono hz673; replace f595 := f595.mono hz673
            obtain ⟨mb612', nxb612, rfl, hnxb612, hf⟩ := loopF_in hf
            unfold go_law10_EditsDo.b2 at hf
            try dsimp only at hf
            refine Run.seq ?_
            refine Run.seq ?_
            refine Run.region ?_
            refine Ops.ex (Ex.move rfl) rfl rfl rfl ?_
            refine Ops.ex (Ex.lss8 (a := x672) (b := 8) rfl rfl) rfl rfl rfl ?_
            refine Ops.nil ?_
            refine Run.cond rfl (fun hc => ?_) (fun hc => ?_)
            · replace hf := ifT (dec_T hc) hf
              refine Run.skip ?_
              refine Run.seq ?_
              refine Run.block ?_
              refine Run.seq ?_
              have hm675 := Le.refl z671
              refine Run.drawH [([], fun w => ∃ ζ Y, Le z671 ζ ∧ Ht w0 (frz ζ :: (orow 5 1 (.slice A608 l608.length c608) l608.length d608) :: (blk g4 [.slice A595 y594.1.Refs.length c595, vi y594.1.Floor] 38) :: Y) w)] (by kernel_rfl) hst673 (fun w674 hst674 => ?_)
              have hS0 := (⟨_, _, (Le.refl _), (St.up (St.up (St.up hst674 2 rfl) 2 rfl) 2 rfl)⟩ : (fun w => ∃ ζ Y, Le z671 ζ ∧ Ht w0 (frz ζ :: (orow 5 1 (.slice A608 l608.length c608) l608.length d608) :: (blk g4 [.slice A595 y594.1.Refs.length c595, vi y594.1.Floor] 38) :: Y) w) _)
              refine Any.take 0 0 rfl rfl rfl rfl rfl (by kernel_rfl) (fun _ _ _ _ _ h => h) (ExS.loadAgg [.slice A595 y594.1.Refs.length c595, vi y594.1.Floor] rfl Try.underlying38 rfl sz38 rfl (fun w hS => by obtain ⟨_, _, _, hs⟩ := hS; exact hs.cells (i := 2) rfl 0 2)) hS0 ?_
              refine Any.takeE 1 rfl rfl rfl rfl (by kernel_rfl) (fun _ _ _ _ _ h => h) ((Ex.move rfl).s) ?_
              obtain ⟨y676, hy676, hf⟩ := bnd hf
              refine Any.one 2 (by kernel_rfl) rfl rfl (One.of_ops rfl ?_)
              refine Ops.call rfl rfl Try.func24 (by kernel_rfl) (by kernel_rfl) rfl (go_law10_name.walk (p0 := x672) (hst := hst674) (hf := hy676)) ?_
              rintro _ w676 ⟨z676, rfl, hz676, hst676⟩
              refine ⟨_, rfl, Ops.stop ?_⟩
              replace f601 := f601.mono hz676; replace f6 := f6.mono hz676; replace f595 := f595.mono hz676; replace f608 := f608.mono hz676
              replace hy673_0 := hy673_0.trans hz676
              replace hy673_1 := hy673_1.trans hz676
              replace hy673_2 := hy673_2.trans hz676
              replace hz673 := hz673.trans hz676
              replace hm675 := hm675.trans hz676
              have hS0 := (⟨_, _, hm675, (St.up (St.up (St.up hst676 2 rfl) 2 rfl) 2 rfl)⟩ : (fun w => ∃ ζ Y, Le z671 ζ ∧ Ht w0 (frz ζ :: (orow 5 1 (.slice A608 l608.length c608) l608.length d608) :: (blk g4 [.slice A595 y594.1.Refs.length c595, vi y594.1.Floor] 38) :: Y) w) _)
              refine ⟨⟨.inr (fun _ => hS0), trivial⟩, ?_⟩
              obtain ⟨y678, hy678, hf⟩ := bnd hf
              refine Any.one 3 (by kernel_rfl) rfl rfl (One.of_ops rfl ?_)
              refine Ops.call rfl rfl Try.func16 (by kernel_rfl) (by kernel_rfl) rfl (go_edits_Find.walk (p0 := y594.1) (p1 := y676) (hst := hst676) (f1 := f595) (hf := hy678)) ?_
              rintro _ w678 ⟨z678, rfl, hz678, hst678⟩
              refine ⟨_, rfl, Ops.stop ?_⟩
              replace f601 := f601.mono hz678; replace f6 := f6.mono hz678; replace f595 := f595.mono hz678; replace f608 := f608.mono hz678
              replace hy673_0 := hy673_0.trans hz678
              replace hy673_1 := hy673_1.trans hz678
              replace hy673_2 := hy673_2.trans hz678
              replace hz673 := hz673.trans hz678
              replace hm675 := hm675.trans hz678
              have hS0 := (⟨_, _, hm675, (St.up (St.up (St.up hst678 2 rfl) 2 rfl) 2 rfl)⟩ : (fun w => ∃ ζ Y, Le z671 ζ ∧ Ht w0 (frz ζ :: (orow 5 1 (.slice A608 l608.length c608) l608.length d608) :: (blk g4 [.slice A595 y594.1.Refs.length c595, vi y594.1.Floor] 38) :: Y) w) _)
              refine ⟨⟨.inr (fun _ => hS0), trivial⟩, ?_⟩
              refine Any.takeE 4 rfl rfl rfl rfl (by kernel_rfl) (fun _ _ _ _ _ h => h) ((Ex.assign rfl).s) ?_
              refine Any.done (by kernel_rfl) ?_
              refine Run.seq ?_
              refine Run.region ?_
              refine Ops.ex (Ex.move rfl) rfl rfl rfl ?_
              refine Ops.ex (Ex.move rfl) rfl rfl rfl ?_
              obtain ⟨y680, hy680, hf⟩ := bnd hf
              refine Ops.call rfl rfl Try.func24 (by kernel_rfl) (by kernel_rfl) rfl (go_law10_name.walk (p0 := x672) (hst := hst678) (hf := hy680)) ?_
              rintro _ w680 ⟨z680, rfl, hz680, hst680⟩
              refine ⟨_, rfl, ?_⟩
              replace f601 := f601.mono hz680; replace f6 := f6.mono hz680; replace f595 := f595.mono hz680; replace f608 := f608.mono hz680
              replace hy673_0 := hy673_0.trans hz680
              replace hy673_1 := hy673_1.trans hz680
              replace hy673_2 := hy673_2.trans hz680
              replace hz673 := hz673.trans hz680
              replace hm675 := hm675.trans hz680
              refine Ops.mlook (zcs := [vs [], vi 0, vi 0, vi 0]) (s := y680) (⟨[], 0, 0, 0⟩ : apiRef) (Mz.at_ f601 hst680) rfl rfl Try.underlying55 Try.underlying9 zr24 rfl rfl (fun cs682 hR682 => ?_)
              obtain rfl := hR682
              refine Ops.ex (Ex.move rfl) rfl rfl rfl ?_
              refine Ops.ex (Ex.extract rfl rfl) rfl rfl rfl ?_
              refine Ops.ex (Ex.extract rfl rfl) rfl rfl rfl ?_
              refine Ops.allocF [vs [], vi 0, vi 0, vi 0] hst680 zr24 rfl rfl (fun g687 w687 hst687 => ?_)
              refine Ops.store 1 [vs (((mget y600.1 y680).getD (⟨[], 0, 0, 0⟩ : apiRef)).Name), vi (((mget y600.1 y680).getD (⟨[], 0, 0, 0⟩ : apiRef)).Kind), vi (((mget y600.1 y680).getD (⟨[], 0, 0, 0⟩ : apiRef)).From), vi (((mget y600.1 y680).getD (⟨[], 0, 0, 0⟩ : apiRef)).To)] hst687 rfl rfl rfl rfl sz24 rfl (by simp [Value.oneCell']) (by simp) (fun w688 hst688 => ?_)
              refine Ops.ex (Ex.assign rfl) rfl rfl rfl ?_
              refine Ops.nil ?_
              refine Run.seq ?_
              have hm690 := Le.refl z680
              refine Run.drawH [([], fun w => ∃ ζ Y, Le z680 ζ ∧ Ht w0 (frz ζ :: (blk g687 [vs (((mget y600.1 y680).getD (⟨[], 0, 0, 0⟩ : apiRef)).Name), vi (((mget y600.1 y680).getD (⟨[], 0, 0, 0⟩ : apiRef)).Kind), vi (((mget y600.1 y680).getD (⟨[], 0, 0, 0⟩ : apiRef)).From), vi (((mget y600.1 y680).getD (⟨[], 0, 0, 0⟩ : apiRef)).To)] 24) :: (orow 5 1 (.slice A608 l608.length c608) l608.length d608) :: (blk g4 [.slice A595 y594.1.Refs.length c595, vi y594.1.Floor] 38) :: Y) w)] (by kernel_rfl) hst688 (fun w689 hst689 => ?_)
              have hS0 := (⟨_, _, (Le.refl _), (St.up (St.up (St.up (St.up hst689 3 rfl) 3 rfl) 3 rfl) 3 rfl)⟩ : (fun w => ∃ ζ Y, Le z680 ζ ∧ Ht w0 (frz ζ :: (blk g687 [vs (((mget y600.1 y680).getD (⟨[], 0, 0, 0⟩ : apiRef)).Name), vi (((mget y600.1 y680).getD (⟨[], 0, 0, 0⟩ : apiRef)).Kind), vi (((mget y600.1 y680).getD (⟨[], 0, 0, 0⟩ : apiRef)).From), vi (((mget y600.1 y680).getD (⟨[], 0, 0, 0⟩ : apiRef)).To)] 24) :: (orow 5 1 (.slice A608 l608.length c608) l608.length d608) :: (blk g4 [.slice A595 y594.1.Refs.length c595, vi y594.1.Floor] 38) :: Y) w) _)
              refine Any.takeE 0 rfl rfl rfl rfl (by kernel_rfl) (fun _ _ _ _ _ h => h) ((Ex.move rfl).s) ?_
              refine Any.takeE 1 rfl rfl rfl rfl (by kernel_rfl) (fun _ _ _ _ _ h => h) ((Ex.move rfl).s) ?_
              refine Any.takeE 2 rfl rfl rfl rfl (by kernel_rfl) (fun _ _ _ _ _ h => h) ((Ex.geq rfl rfl).s) ?_
              refine Any.takeE 3 rfl rfl rfl rfl (by kernel_rfl) (fun _ _ _ _ _ h => h) ((Ex.neqBo rfl rfl Try.underlying4).s) ?_
              refine Any.takeE 4 rfl rfl rfl rfl (by kernel_rfl) (fun _ _ _ _ _ h => h) ((Ex.move rfl).s) ?_
              refine Any.case 101 rfl (fun hc => ?_) (fun hc => ?_)
              · replace hf := ifF (neq_T hc) hf
                refine Any.pass 5 rfl rfl rfl rfl (by kernel_rfl) (fun _ _ _ _ _ h => h) ?_
                refine Any.pass 6 rfl rfl rfl rfl (by kernel_rfl) (fun _ _ _ _ _ h => h) ?_
                refine Any.passU 7 rfl rfl rfl rfl rfl (by kernel_rfl) (fun _ _ _ _ _ h => h) ?_
                refine Any.passU 8 rfl rfl rfl rfl rfl (by kernel_rfl) (fun _ _ _ _ _ h => h) ?_
                refine Any.passU 9 rfl rfl rfl rfl rfl (by kernel_rfl) (fun _ _ _ _ _ h => h) ?_
                refine Any.passU 10 rfl rfl rfl rfl rfl (by kernel_rfl) (fun _ _ _ _ _ h => h) ?_
                refine Any.passU 11 rfl rfl rfl rfl rfl (by kernel_rfl) (fun _ _ _ _ _ h => h) ?_
                refine Any.passU 12 rfl rfl rfl rfl rfl (by kernel_rfl) (fun _ _ _ _ _ h => h) ?_
                refine Any.passU 13 rfl rfl rfl rfl rfl (by kernel_rfl) (fun _ _ _ _ _ h => h) ?_
                refine Any.passU 14 rfl rfl rfl rfl rfl (by kernel_rfl) (fun _ _ _ _ _ h => h) ?_
                refine Any.passU 15 rfl rfl rfl rfl rfl (by kernel_rfl) (fun _ _ _ _ _ h => h) ?_
                refine Any.pass 16 rfl rfl rfl rfl (by kernel_rfl) (fun _ _ _ _ _ h => h) ?_
                refine Any.takeE 17 rfl rfl rfl rfl (by kernel_rfl) (fun _ _ _ _ _ h => h) ((Ex.pickT rfl rfl).s) ?_
                refine Any.takeE 18 rfl rfl rfl rfl (by kernel_rfl) (fun _ _ _ _ _ h => h) ((Ex.move rfl).s) ?_
                refine Any.pass 19 rfl rfl rfl rfl (by kernel_rfl) (fun _ _ _ _ _ h => h) ?_
                refine Any.pass 20 rfl rfl rfl rfl (by kernel_rfl) (fun _ _ _ _ _ h => h) ?_
                refine Any.pass 21 rfl rfl rfl rfl (by kernel_rfl) (fun _ _ _ _ _ h => h) ?_
                refine Any.passU 22 rfl rfl rfl rfl rfl (by kernel_rfl) (fun _ _ _ _ _ h => h) ?_
                refine Any.passU 23 rfl rfl rfl rfl rfl (by kernel_rfl) (fun _ _ _ _ _ h => h) ?_
                refine Any.pass 24 rfl rfl rfl rfl (by kernel_rfl) (fun _ _ _ _ _ h => h) ?_
                refine Any.takeE 25 rfl rfl rfl rfl (by kernel_rfl) (fun _ _ _ _ _ h => h) ((Ex.pickT rfl rfl).s) ?_
                refine Any.done (by kernel_rfl) ?_
                refine Run.condT rfl rfl ?_
                refine Run.seq ?_
                refine Run.region ?_
                refine Ops.ex (Ex.assign rfl) rfl rfl rfl ?_
                refine Ops.nil ?_
                obtain rfl := Option.some.inj hf
                exact Run.retV [vb false] rfl ⟨rfl, trivial⟩ ⟨z680, rfl, hy673_0, (St.forget (St.forget (St.forget hst689 3) 2) 1)⟩
              · replace hf := ifT (neq_F hc) hf
                refine Any.takeE 5 rfl rfl rfl rfl (by kernel_rfl) (fun _ _ _ _ _ h => h) (ExS.g ((Ex.move rfl).s)) ?_
                refine Any.takeE 6 rfl rfl rfl rfl (by kernel_rfl) (fun _ _ _ _ _ h => h) (ExS.g ((Ex.move rfl).s)) ?_
                refine Any.case 103 rfl (fun hc => ?_) (fun hc => ?_)
                · replace hf := ifTb hc hf
                  refine Any.takeE 7 rfl rfl rfl rfl (by kernel_rfl) (fun _ _ _ _ _ h => h) (ExS.g ((Ex.fieldAddr rfl Try.underlying38 rfl sz26).s)) ?_
                  refine Any.take 0 8 rfl rfl rfl rfl rfl (by kernel_rfl) (fun _ _ _ _ _ h => h) (ExS.g (ExS.load rfl Try.underlying26 rfl (fun w hS => by obtain ⟨_, _, _, hs⟩ := hS; exact hs.cell (i := 3) rfl rfl))) hS0 ?_
                  refine Any.takeE 9 rfl rfl rfl rfl (by kernel_rfl) (fun _ _ _ _ _ h => h) (ExS.g ((Ex.move rfl).s)) ?_
                  obtain ⟨y691, hy691, hf⟩ := bnd hf
                  obtain ⟨g696, p696, o696, cs696, hA696, ho696, hr696, f696⟩ := SlH.elem f595.toH hy691
                  obtain rfl := hr696
                  refine Any.takeE 10 rfl rfl rfl rfl (by kernel_rfl) (fun _ _ _ _ _ h => h) (ExS.g ((Ex.ixA hA696 ho696 hy691 rfl rfl rfl Try.underlying26 sz24).s)) ?_
                  refine Any.takeE 11 rfl rfl rfl rfl (by kernel_rfl) (fun _ _ _ _ _ h => h) (ExS.g ((Ex.fieldAddr rfl Try.underlying24 rfl sz9).s)) ?_
                  refine Any.take 0 12 rfl rfl rfl rfl rfl (by kernel_rfl) (fun _ _ _ _ _ h => h) (ExS.g (ExS.load rfl Try.underlying9 rfl (fun w hS => by obtain ⟨_, _, hz, hs⟩ := hS; exact (f696.mono (hz.trans hs.le)) 0 _ rfl))) hS0 ?_
                  refine Any.takeE 13 rfl rfl rfl rfl (by kernel_rfl) (fun _ _ _ _ _ h => h) (ExS.g ((Ex.move rfl).s)) ?_
                  obtain ⟨y697, hy697, hf⟩ := bnd hf
                  refine Any.one 14 (by kernel_rfl) rfl rfl (One.g <| One.of_ops rfl ?_)
                  refine Ops.call rfl rfl Try.func24 (by kernel_rfl) (by kernel_rfl) rfl (go_law10_name.walk (p0 := x672) (hst := hst689) (hf := hy697)) ?_
                  rintro _ w697 ⟨z697, rfl, hz697, hst697⟩
                  refine ⟨_, rfl, Ops.stop ?_⟩
                  replace f601 := f601.mono hz697; replace f6 := f6.mono hz697; replace f595 := f595.mono hz697; replace f696 := f696.mono hz697; replace f608 := f608.mono hz697
                  replace hy673_0 := hy673_0.trans hz697
                  replace hy673_1 := hy673_1.trans hz697
                  replace hy673_2 := hy673_2.trans hz697
                  replace hz673 := hz673.trans hz697
                  replace hm675 := hm675.trans hz697
                  replace hm690 := hm690.trans hz697
                  have hS0 := (⟨_, _, hm690, (St.up (St.up (St.up (St.up hst697 3 rfl) 3 rfl) 3 rfl) 3 rfl)⟩ : (fun w => ∃ ζ Y, Le z680 ζ ∧ Ht w0 (frz ζ :: (blk g687 [vs (((mget y600.1 y680).getD (⟨[], 0, 0, 0⟩ : apiRef)).Name), vi (((mget y600.1 y680).getD (⟨[], 0, 0, 0⟩ : apiRef)).Kind), vi (((mget y600.1 y680).getD (⟨[], 0, 0, 0⟩ : apiRef)).From), vi (((mget y600.1 y680).getD (⟨[], 0, 0, 0⟩ : apiRef)).To)] 24) :: (orow 5 1 (.slice A608 l608.length c608) l608.length d608) :: (blk g4 [.slice A595 y594.1.Refs.length c595, vi y594.1.Floor] 38) :: Y) w) _)
                  refine ⟨⟨.inr (fun _ => hS0), trivial⟩, ?_⟩
                  refine Any.takeE 15 rfl rfl rfl rfl (by kernel_rfl) (fun _ _ _ _ _ h => h) (ExS.g ((Ex.neqT rfl rfl).s)) ?_
                  refine Any.takeE 16 rfl rfl rfl rfl (by kernel_rfl) (fun _ _ _ _ _ h => h) (ExS.g ((Ex.pickT rfl rfl).s)) ?_
                  refine Any.takeE 17 rfl rfl rfl rfl (by kernel_rfl) (fun _ _ _ _ _ h => h) ((Ex.pickF rfl rfl).s) ?_
                  refine Any.takeE 18 rfl rfl rfl rfl (by kernel_rfl) (fun _ _ _ _ _ h => h) ((Ex.move rfl).s) ?_
                  refine Any.case 115 rfl (fun hc => ?_) (fun hc => ?_)
                  · replace hf := ifF (neq_T hc) hf
                    refine Any.pass 19 rfl rfl rfl rfl (by kernel_rfl) (fun _ _ _ _ _ h => h) ?_
                    refine Any.pass 20 rfl rfl rfl rfl (by kernel_rfl) (fun _ _ _ _ _ h => h) ?_
                    refine Any.pass 21 rfl rfl rfl rfl (by kernel_rfl) (fun _ _ _ _ _ h => h) ?_
                    refine Any.passU 22 rfl rfl rfl rfl rfl (by kernel_rfl) (fun _ _ _ _ _ h => h) ?_
                    refine Any.passU 23 rfl rfl rfl rfl rfl (by kernel_rfl) (fun _ _ _ _ _ h => h) ?_
                    refine Any.pass 24 rfl rfl rfl rfl (by kernel_rfl) (fun _ _ _ _ _ h => h) ?_
                    refine Any.takeE 25 rfl rfl rfl rfl (by kernel_rfl) (fun _ _ _ _ _ h => h) ((Ex.pickT rfl rfl).s) ?_
                    refine Any.done (by kernel_rfl) ?_
                    refine Run.condT rfl rfl ?_
                    refine Run.seq ?_
                    refine Run.region ?_
                    refine Ops.ex (Ex.assign rfl) rfl rfl rfl ?_
                    refine Ops.nil ?_
                    obtain rfl := Option.some.inj hf
                    exact Run.retV [vb false] rfl ⟨rfl, trivial⟩ ⟨z697, rfl, hy673_0, (St.forget (St.forget (St.forget hst697 3) 2) 1)⟩
                  · replace hf := ifT (neq_F hc) hf
                    refine Any.takeE 19 rfl rfl rfl rfl (by kernel_rfl) (fun _ _ _ _ _ h => h) (ExS.g ((Ex.move rfl).s)) ?_
                    refine Any.takeE 20 rfl rfl rfl rfl (by kernel_rfl) (fun _ _ _ _ _ h => h) (ExS.g ((Ex.not rfl).s)) ?_
                    refine Any.takeE 21 rfl rfl rfl rfl (by kernel_rfl) (fun _ _ _ _ _ h => h) (ExS.g ((Ex.move rfl).s)) ?_
                    refine Any.case 118 rfl (fun hc => ?_) (fun hc => ?_)
                    · replace hf := ifFb (bn_T hc) hf
                      refine Any.takeE 22 rfl rfl rfl rfl (by kernel_rfl) (fun _ _ _ _ _ h => h) (ExS.g ((Ex.move rfl).s)) ?_
                      refine Any.takeE 23 rfl rfl rfl rfl (by kernel_rfl) (fun _ _ _ _ _ h => h) (ExS.g ((Ex.neqI rfl rfl).s)) ?_
                      refine Any.takeE 24 rfl rfl rfl rfl (by kernel_rfl) (fun _ _ _ _ _ h => h) (ExS.g ((Ex.pickT rfl rfl).s)) ?_
                      refine Any.takeE 25 rfl rfl rfl rfl (by kernel_rfl) (fun _ _ _ _ _ h => h) ((Ex.pickF rfl rfl).s) ?_
                      refine Any.done (by kernel_rfl) ?_
                      refine Run.cond rfl (fun hc => ?_) (fun hc => ?_)
                      · replace hf := ifF (neq_T hc) hf
                        refine Run.seq ?_
                        refine Run.region ?_
                        refine Ops.ex (Ex.assign rfl) rfl rfl rfl ?_
                        refine Ops.nil ?_
                        obtain rfl := Option.some.inj hf
                        exact Run.retV [vb false] rfl ⟨rfl, trivial⟩ ⟨z697, rfl, hy673_0, (St.forget (St.forget (St.forget hst697 3) 2) 1)⟩
                      · replace hf := ifT (neq_F hc) hf
                        refine Run.skip ?_
                        refine Run.endBlk ?_
                        refine Run.region ?_
                        refine Ops.ex (Ex.move rfl) rfl rfl rfl ?_
                        refine Ops.ex (Ex.add8 (a := x672) (b := 1) rfl rfl) rfl rfl rfl ?_
                        refine Ops.ex (Ex.assign rfl) rfl rfl rfl ?_
                        refine Ops.nil ?_
                        exact Run.sub (by exact subB_spec ⟨rfl, rfl, rfl, rfl, rfl, rfl, rfl, trivial⟩) (Run.stop ⟨mb612', Nat.lt_succ_self _, x672 + 1, z697, (hnxb612 _).symm.trans hf, rfl, hz673, hy673_0, hy673_1, hy673_2, (St.forget hst697 1)⟩)
                    · replace hf := ifTb (bn_F hc) hf
                      refine Any.pass 22 rfl rfl rfl rfl (by kernel_rfl) (fun _ _ _ _ _ h => h) ?_
                      refine Any.pass 23 rfl rfl rfl rfl (by kernel_rfl) (fun _ _ _ _ _ h => h) ?_
                      refine Any.takeE 24 rfl rfl rfl rfl (by kernel_rfl) (fun _ _ _ _ _ h => h) (ExS.g ((Ex.pickF rfl rfl).s)) ?_
                      refine Any.takeE 25 rfl rfl rfl rfl (by kernel_rfl) (fun _ _ _ _ _ h => h) ((Ex.pickF rfl rfl).s) ?_
                      refine Any.done (by kernel_rfl) ?_
                      refine Run.condF rfl rfl ?_
                      refine Run.skip ?_
                      refine Run.endBlk ?_
                      refine Run.region ?_
                      refine Ops.ex (Ex.move rfl) rfl rfl rfl ?_
                      refine Ops.ex (Ex.add8 (a := x672) (b := 1) rfl rfl) rfl rfl rfl ?_
                      refine Ops.ex (Ex.assign rfl) rfl rfl rfl ?_
                      refine Ops.nil ?_
                      exact Run.sub (by exact subB_spec ⟨rfl, rfl, rfl, rfl, rfl, rfl, rfl, trivial⟩) (Run.stop ⟨mb612', Nat.lt_succ_self _, x672 + 1, z697, (hnxb612 _).symm.trans hf, rfl, hz673, hy673_0, hy673_1, hy673_2, (St.forget hst697 1)⟩)
                · replace hf := ifFb hc hf
                  refine Any.pass 7 rfl rfl rfl rfl (by kernel_rfl) (fun _ _ _ _ _ h => h) ?_
                  refine Any.pass 8 rfl rfl rfl rfl (by kernel_rfl) (fun _ _ _ _ _ h => h) ?_
                  refine Any.pass 9 rfl rfl rfl rfl (by kernel_rfl) (fun _ _ _ _ _ h => h) ?_
                  refine Any.pass 10 rfl rfl rfl rfl (by kernel_rfl) (fun _ _ _ _ _ h => h) ?_
                  refine Any.pass 11 rfl rfl rfl rfl (by kernel_rfl) (fun _ _ _ _ _ h => h) ?_
                  refine Any.pass 12 rfl rfl rfl rfl (by kernel_rfl) (fun _ _ _ _ _ h => h) ?_
                  refine Any.pass 13 rfl rfl rfl rfl (by kernel_rfl) (fun _ _ _ _ _ h => h) ?_
                  refine Any.pass 14 rfl rfl rfl rfl (by kernel_rfl) (fun _ _ _ _ _ h => h) ?_
                  refine Any.pass 15 rfl rfl rfl rfl (by kernel_rfl) (fun _ _ _ _ _ h => h) ?_
                  refine Any.takeE 16 rfl rfl rfl rfl (by kernel_rfl) (fun _ _ _ _ _ h => h) (ExS.g ((Ex.pickF rfl rfl).s)) ?_
                  refine Any.takeE 17 rfl rfl rfl rfl (by kernel_rfl) (fun _ _ _ _ _ h => h) ((Ex.pickF rfl rfl).s) ?_
                  refine Any.takeE 18 rfl rfl rfl rfl (by kernel_rfl) (fun _ _ _ _ _ h => h) ((Ex.move rfl).s) ?_
                  refine Any.takeE 19 rfl rfl rfl rfl (by kernel_rfl) (fun _ _ _ _ _ h => h) (ExS.g ((Ex.move rfl).s)) ?_
                  refine Any.takeE 20 rfl rfl rfl rfl (by kernel_rfl) (fun _ _ _ _ _ h => h) (ExS.g ((Ex.not rfl).s)) ?_
                  refine Any.takeE 21 rfl rfl rfl rfl (by kernel_rfl) (fun _ _ _ _ _ h => h) (ExS.g ((Ex.move rfl).s)) ?_
                  refine Any.case 118 rfl (fun hc => ?_) (fun hc => ?_)
                  · replace hf := ifFb (bn_T hc) hf
                    refine Any.takeE 22 rfl rfl rfl rfl (by kernel_rfl) (fun _ _ _ _ _ h => h) (ExS.g ((Ex.move rfl).s)) ?_
                    refine Any.takeE 23 rfl rfl rfl rfl (by kernel_rfl) (fun _ _ _ _ _ h => h) (ExS.g ((Ex.neqI rfl rfl).s)) ?_
                    refine Any.takeE 24 rfl rfl rfl rfl (by kernel_rfl) (fun _ _ _ _ _ h => h) (ExS.g ((Ex.pickT rfl rfl).s)) ?_
                    refine Any.takeE 25 rfl rfl rfl rfl (by kernel_rfl) (fun _ _ _ _ _ h => h) ((Ex.pickF rfl rfl).s) ?_
                    refine Any.done (by kernel_rfl) ?_
                    refine Run.cond rfl (fun hc => ?_) (fun hc => ?_)
                    · replace hf := ifF (neq_T hc) hf
                      refine Run.seq ?_
                      refine Run.region ?_
                      refine Ops.ex (Ex.assign rfl) rfl rfl rfl ?_
                      refine Ops.nil ?_
                      obtain rfl := Option.some.inj hf
                      exact Run.retV [vb false] rfl ⟨rfl, trivial⟩ ⟨z680, rfl, hy673_0, (St.forget (St.forget (St.forget hst689 3) 2) 1)⟩
                    · replace hf := ifT (neq_F hc) hf
                      refine Run.skip ?_
                      refine Run.endBlk ?_
                      refine Run.region ?_
                      refine Ops.ex (Ex.move rfl) rfl rfl rfl ?_
                      refine Ops.ex (Ex.add8 (a := x672) (b := 1) rfl rfl) rfl rfl rfl ?_
                      refine Ops.ex (Ex.assign rfl) rfl rfl rfl ?_
                      refine Ops.nil ?_
                      exact Run.sub (by exact subB_spec ⟨rfl, rfl, rfl, rfl, rfl, rfl, rfl, trivial⟩) (Run.stop ⟨mb612', Nat.lt_succ_self _, x672 + 1, z680, (hnxb612 _).symm.trans hf, rfl, hz673, hy673_0, hy673_1, hy673_2, (St.forget hst689 1)⟩)
                  · replace hf := ifTb (bn_F hc) hf
                    refine Any.pass 22 rfl rfl rfl rfl (by kernel_rfl) (fun _ _ _ _ _ h => h) ?_
                    refine Any.pass 23 rfl rfl rfl rfl (by kernel_rfl) (fun _ _ _ _ _ h => h) ?_
                    refine Any.takeE 24 rfl rfl rfl rfl (by kernel_rfl) (fun _ _ _ _ _ h => h) (ExS.g ((Ex.pickF rfl rfl).s)) ?_
                    refine Any.takeE 25 rfl rfl rfl rfl (by kernel_rfl) (fun _ _ _ _ _ h => h) ((Ex.pickF rfl rfl).s) ?_
                    refine Any.done (by kernel_rfl) ?_
                    refine Run.condF rfl rfl ?_
                    refine Run.skip ?_
                    refine Run.endBlk ?_
                    refine Run.region ?_
                    refine Ops.ex (Ex.move rfl) rfl rfl rfl ?_
                    refine Ops.ex (Ex.add8 (a := x672) (b := 1) rfl rfl) rfl rfl rfl ?_
                    refine Ops.ex (Ex.assign rfl) rfl rfl rfl ?_
                    refine Ops.nil ?_
                    exact Run.sub (by exact subB_spec ⟨rfl, rfl, rfl, rfl, rfl, rfl, rfl, trivial⟩) (Run.stop ⟨mb612', Nat.lt_succ_self _, x672 + 1, z680, (hnxb612 _).symm.trans hf, rfl, hz673, hy673_0, hy673_1, hy673_2, (St.forget hst689 1)⟩)
            · replace hf := ifF (dec_F hc) hf
              refine Run.exit _ rfl ?_
              refine Run.endBlk ?_
              refine Run.region ?_
              refine Ops.ex (Ex.add rfl rfl) rfl rfl rfl ?_
              refine Ops.ex (Ex.move rfl) rfl rfl rfl ?_
              refine Ops.nil ?_
              refine Run.re 31 rfl (congrArg vi (wr_succ' hl7 hc7)) ?_
              exact Run.sub (by exact subB_spec ⟨rfl, rfl, rfl, rfl, rfl, rfl, trivial⟩) (Run.stop ⟨l6.length - (i7 + 1), by omega, i7 + 1, y600.1, l608, y594.1.Refs, y594.1.Floor, M601, A608, c608, d608, A595, c595, z671, rfl, by omega, (hnxb7 _).symm.trans hf, rfl, hy673_2, hy673_0, hy673_1, f601, f608, f595, hst673⟩)
    · replace hf := forL_out hf (nlt_of_dec hc)
      try dsimp only at hf
      refine Run.exit _ rfl ?_
      refine Run.seq ?_
      refine Run.region ?_
      refine Ops.ex (Ex.move rfl) rfl rfl rfl ?_
      obtain ⟨z700, hz700, f700, hst700⟩ := St.freeze (τ := tU8) (xs := l571) hst576 f571 rfl
      replace f570 := f570.mono hz700; replace f6 := f6.mono hz700; replace f572 := f572.mono hz700
      replace hy576_0 := hy576_0.trans hz700
      replace hy576_1 := hy576_1.trans hz700
      replace hz576 := hz576.trans hz700
      obtain ⟨y699, hy699, hf⟩ := bnd hf
      refine Ops.call rfl rfl Try.func25 (by kernel_rfl) (by kernel_rfl) rfl (go_edits_Replay.walk (p0 := l571) (hst := hst700) (f1 := f700) (hf := hy699)) ?_
      rintro _ w699 ⟨z699, A701, c701, rfl, hz699, f701, hst699⟩
      refine ⟨_, rfl, ?_⟩
      replace f570 := f570.mono hz699; replace f700 := f700.mono hz699; replace f6 := f6.mono hz699; replace f572 := f572.mono hz699
      replace hy576_0 := hy576_0.trans hz699
      replace hy576_1 := hy576_1.trans hz699
      replace hz576 := hz576.trans hz699
      refine Ops.ex (Ex.move rfl) rfl rfl rfl ?_
      refine Ops.ex (Ex.extract rfl rfl) rfl rfl rfl ?_
      refine Ops.ex (Ex.extract rfl rfl) rfl rfl rfl ?_
      refine Ops.ex (Ex.extract rfl rfl) rfl rfl rfl ?_
      refine Ops.allocF [.slice none 0 0, vi 0] hst699 zr38 rfl rfl (fun g705 w705 hst705 => ?_)
      refine Ops.store 1 [.slice A701 y699.1.Refs.length c701, vi y699.1.Floor] hst705 rfl rfl rfl rfl sz38 rfl (by simp [Value.oneCell']) (by simp) (fun w706 hst706 => ?_)
      refine Ops.ex (Ex.assign rfl) rfl rfl rfl ?_
      refine Ops.ex (Ex.assign rfl) rfl rfl rfl ?_
      refine Ops.nil ?_
      refine Run.seq ?_
      refine Run.region ?_
      refine Ops.ex (Ex.move rfl) rfl rfl rfl ?_
      refine Ops.ex (Ex.eqlI rfl rfl) rfl rfl rfl ?_
      refine Ops.ex (Ex.move rfl) rfl rfl rfl ?_
      refine Ops.case 132 rfl (fun hc => ?_) (fun hc => ?_)
      · replace hf := ifT (dec_T hc) hf
        refine Ops.on rfl ?_
        refine Ops.ex (Ex.move rfl) rfl rfl rfl ?_
        refine Ops.on rfl ?_
        refine Ops.ex (Ex.move rfl) rfl rfl rfl ?_
        refine Ops.on rfl ?_
        refine Ops.ex (Ex.len' rfl rfl rfl Try.underlying30) rfl rfl rfl ?_
        refine Ops.on rfl ?_
        refine Ops.ex (Ex.eqlI rfl rfl) rfl rfl rfl ?_
        refine Ops.ex (Ex.pickT rfl rfl) rfl rfl rfl ?_
        refine Ops.ex (Ex.move rfl) rfl rfl rfl ?_
        refine Ops.case 138 rfl (fun hc => ?_) (fun hc => ?_)
        · replace hf := ifT (dec_T hc) hf
          refine Ops.on rfl ?_
          refine Ops.loadAgg _ rfl Try.underlying38 rfl sz38 rfl (hst706.cells (i := 1) rfl 0 2) rfl ?_
          refine Ops.on rfl ?_
          refine Ops.ex (Ex.move rfl) rfl rfl rfl ?_
          refine Ops.on rfl ?_
          refine Ops.ex (Ex.fieldAddr rfl Try.underlying38 rfl sz3) rfl rfl rfl ?_
          refine Ops.on rfl ?_
          refine Ops.load rfl Try.underlying3 rfl (hst706.cell (i := 2) rfl rfl) rfl ?_
          refine Ops.on rfl ?_
          obtain ⟨y707, hy707, hf⟩ := bnd hf
          refine Ops.call rfl rfl Try.func23 (by kernel_rfl) (by kernel_rfl) rfl (go_law10_Shows.walk (p0 := y699.1) (p1 := mp570) (p2 := x573) (hst := hst706) (f1 := f701) (f3 := f570) (hf := hy707)) ?_
          rintro _ w707 ⟨z707, rfl, hz707, hst707⟩
          refine ⟨_, rfl, ?_⟩
          replace f570 := f570.mono hz707; replace f700 := f700.mono hz707; replace f6 := f6.mono hz707; replace f701 := f701.mono hz707; replace f572 := f572.mono hz707
          replace hy576_0 := hy576_0.trans hz707
          replace hy576_1 := hy576_1.trans hz707
          replace hz576 := hz576.trans hz707
          refine Ops.ex (Ex.pickT rfl rfl) rfl rfl rfl ?_
          refine Ops.ex (Ex.assign rfl) rfl rfl rfl ?_
          refine Ops.nil ?_
          obtain rfl := Option.some.inj hf
          exact Run.retV [vb y707] rfl ⟨rfl, trivial⟩ ⟨z707, rfl, hy576_0, (St.forget (St.forget hst707 2) 1)⟩
        · replace hf := ifF (dec_F hc) hf
          refine Ops.off rfl rfl ?_
          refine Ops.off rfl rfl ?_
          refine Ops.off rfl rfl ?_
          refine Ops.off rfl rfl ?_
          refine Ops.off rfl rfl ?_
          refine Ops.ex (Ex.pickF rfl rfl) rfl rfl rfl ?_
          refine Ops.ex (Ex.assign rfl) rfl rfl rfl ?_
          refine Ops.nil ?_
          obtain rfl := Option.some.inj hf
          exact Run.retV [vb false] rfl ⟨rfl, trivial⟩ ⟨z699, rfl, hy576_0, (St.forget (St.forget hst706 2) 1)⟩
      · replace hf := ifF (dec_F hc) hf
        refine Ops.off rfl rfl ?_
        refine Ops.off rfl rfl ?_
        refine Ops.off rfl rfl ?_
        refine Ops.off rfl rfl ?_
        refine Ops.ex (Ex.pickF rfl rfl) rfl rfl rfl ?_
        refine Ops.ex (Ex.move rfl) rfl rfl rfl ?_
        refine Ops.off rfl rfl ?_
        refine Ops.off rfl rfl ?_
        refine Ops.off rfl rfl ?_
        refine Ops.off rfl rfl ?_
        refine Ops.off rfl rfl ?_
        refine Ops.ex (Ex.pickF rfl rfl) rfl rfl rfl ?_
        refine Ops.ex (Ex.assign rfl) rfl rfl rfl ?_
        refine Ops.nil ?_
        obtain rfl := Option.some.inj hf
        exact Run.retV [vb false] rfl ⟨rfl, trivial⟩ ⟨z699, rfl, hy576_0, (St.forget (St.forget hst706 2) 1)⟩
def go_law10_EditsReplay.j1 (mp1803 : Mp apiRef) (x1804 : Int) (nxb1658 : (Mp apiRef × Int × Bool) → Option Bool) (y1809 : editsEdit × Bool) (y1816 : Mp apiRef × Int) (b1822 : Bool) : Option Bool :=
  if b1822 then (nxb1658 (mp1803, x1804, b1822)) else (nxb1658 (y1816.1, y1809.1.Floor, b1822))
def go_law10_EditsReplay.b3 (i1658 : Nat) (a1658 : List UInt8) : (Mp apiRef × Int × Bool) → (Mp apiRef × Int × Bool → Option Bool) → Option Bool :=
  fun (mp1803, x1804, b1805) nxb1658 => (go_edits_Read a1658).bind fun y1809 => (go_law10_do mp1803 x1804 y1809.1).bind fun y1816 => if b1805 then (go_law10_EditsReplay.j1 mp1803 x1804 nxb1658 y1809 y1816 true) else (if y1809.2 then (go_law10_EditsReplay.j1 mp1803 x1804 nxb1658 y1809 y1816 (!(decide (y1816.2 = 0)))) else (go_law10_EditsReplay.j1 mp1803 x1804 nxb1658 y1809 y1816 true))
def go_law10_EditsReplay.b2 (p2 : List UInt8) (l1256 : List UInt8) (l1260 : List UInt8) : Int → (Int → Option Bool) → Option Bool :=
  fun x1648 nxb1264 => if x1648 < ([l1256, l1260, p2].length : Int) then ((atI [l1256, l1260, p2] x1648).bind fun y1650 => (go_frame_Rows y1650).bind fun y1654 => forL (go_law10_EditsReplay.b3) (fun (mp1803, x1804, b1805) => (go_edits_Replay y1650).bind fun y1826 => if b1805 then (if y1826.2.2 = 10 then (if y1826.2.1 = 0 then (if (y1826.1.Refs.length : Int) = 0 then (if b1805 then (nxb1264 (wr (x1648 + 1))) else (if y1826.2.2 = 0 then (if y1826.2.1 = y1654.2.1 then ((go_law10_Shows y1826.1 mp1803 x1804).bind fun y1833 => if y1833 then (nxb1264 (wr (x1648 + 1))) else (some false)) else (some false)) else (some false))) else (some false)) else (some false)) else (some false)) else (if b1805 then (nxb1264 (wr (x1648 + 1))) else (if y1826.2.2 = 0 then (if y1826.2.1 = y1654.2.1 then ((go_law10_Shows y1826.1 mp1803 x1804).bind fun y1835 => if y1835 then (nxb1264 (wr (x1648 + 1))) else (some false)) else (some false)) else (some false)))) 0 y1654.1 ([], 0, false)) else (some true)
def go_law10_EditsReplay.b1 (i7 : Nat) (a7 : law10Step) : (List UInt8) → (List UInt8 → Option Bool) → Option Bool :=
  fun l1228 nxb7 => (go_law10_Step_Edit a7).bind fun y1243 => (go_edits_Bytes y1243).bind fun y1247 => (go_frame_Make y1247).bind fun y1249 => (apB 1 l1228 y1249.1).bind fun l1252 => nxb7 l1252
def go_law10_EditsReplay (p0 : List law10Step) (p1 : UInt16) (p2 : List UInt8) : Option Bool :=
  (go_law10_awake).bind fun y4 => if y4 then ((cutI p0 0 (min (p0.length : Int) 30)).bind fun l6 => forL (go_law10_EditsReplay.b1) (fun l1228 => (nzI (wr ((l1228.length : Int) + 1))).bind fun _ => (cutI l1228 0 (Int.tmod (p1.toNat : Int) (wr ((l1228.length : Int) + 1)))).bind fun l1256 => (apB 1 [] l1228).bind fun l1257 => (apB 1 l1257 p2).bind fun l1260 => loopF (go_law10_EditsReplay.b2 p2 l1256 l1260) fuel 0) 0 l6 []) else (some false)
set_option maxRecDepth 100000 in
set_option maxHeartbeats 4000000 in
theorem go_law10_EditsReplay.walk {w0 w : World} {X : List Res} {z0 : Zp} {p0 : List law10Step} {A1 : Option Addr} {c1 : Nat} {p1 : UInt16} {p2 : List UInt8} {A3 : Option Addr} {c3 : Nat} {r : Bool} (hst : Ht w0 (frz z0 :: X) w) (f1 : Sl tlaw10Step z0 A1 c1 p0) (f3 : Sl tU8 z0 A3 c3 p2) (hf : go_law10_EditsReplay p0 p1 p2 = some r) :
    Calls Try.prog 10 #[.slice A1 p0.length c1, vu16 p1, .slice A3 p2.length c3] w fun e w' => ∃ (z' : Zp), e = .returned (vb r) ∧ Le z0 z' ∧ Ht w0 (frz z' :: X) w' := by
  refine calls_np Try.func10 rfl rfl ?_
  have hle0 := Le.refl z0
  unfold go_law10_EditsReplay at hf
  refine Run.seq ?_
  refine Run.region ?_
  refine Ops.ex (Ex.assign rfl) rfl rfl rfl ?_
  refine Ops.nil ?_
  refine Run.seq ?_
  refine Run.seq ?_
  refine Run.region ?_
  obtain ⟨y4, hy4, hf⟩ := bnd hf
  refine Ops.call rfl rfl Try.func11 (by kernel_rfl) (by kernel_rfl) rfl (go_law10_awake.walk (hst := hst) (hf := hy4)) ?_
  rintro _ w4 ⟨z4, rfl, hz4, hst4⟩
  refine ⟨_, rfl, ?_⟩
  replace f1 := f1.mono hz4; replace f3 := f3.mono hz4
  replace hle0 := hle0.trans hz4
  refine Ops.ex (Ex.not rfl) rfl rfl rfl ?_
  refine Ops.nil ?_
  refine Run.cond rfl (fun hc => ?_) (fun hc => ?_)
  · replace hf := ifFb (bn_T hc) hf
    refine Run.seq ?_
    refine Run.region ?_
    refine Ops.ex (Ex.assign rfl) rfl rfl rfl ?_
    refine Ops.nil ?_
    obtain rfl := Option.some.inj hf
    exact Run.retV [vb false] rfl ⟨rfl, trivial⟩ ⟨z4, rfl, hle0, hst4⟩
  · replace hf := ifTb (bn_F hc) hf
    refine Run.skip ?_
    refine Run.seq ?_
    refine Run.region ?_
    refine Ops.ex (Ex.assign rfl) rfl rfl rfl ?_
    refine Ops.nil ?_
    refine Run.seq ?_
    refine Run.seq ?_
    refine Run.region ?_
    refine Ops.ex (Ex.move rfl) rfl rfl rfl ?_
    refine Ops.ex (Ex.move rfl) rfl rfl rfl ?_
    refine Ops.ex (Ex.len' rfl rfl rfl Try.underlying36) rfl rfl rfl ?_
    refine Ops.ex (Ex.min2 rfl rfl rfl) rfl rfl rfl ?_
    obtain ⟨l6, hy6, hf⟩ := bnd hf
    obtain ⟨A6, c6, hA6, hB6, f6⟩ := SlH.sub f1.toH hy6
    replace f6 := f6.toS
    refine Ops.ex (Ex.subA hA6 hB6 hy6 rfl rfl Try.underlying36 sz32 rfl rfl) rfl rfl rfl ?_
    refine Ops.ex (Ex.len' rfl rfl rfl Try.underlying36) rfl rfl rfl ?_
    refine Ops.ex (Ex.move rfl) rfl rfl rfl ?_
    refine Ops.nil ?_
    refine Run.block ?_
    have hc7 := f6.cap
    have hm8 := Le.refl z4
    have hst1229 := hst4.row0 5 1
    refine Run.sub (e' := [(1, vu16 p1), (2, .slice A3 p2.length c3), (7, .slice none 0 0), (35, .slice A6 l6.length c6), (36, vi (l6.length : Int)), (37, vi ((0 : Nat) : Int))]) (subB_spec ⟨rfl, rfl, rfl, rfl, rfl, rfl, trivial⟩) ?_
    refine Run.loop (fun mb7 => (fun e' w' => ∃ (i7 : Nat) (l1228 : List UInt8) (A1228 : Option Addr) (c1228 : Nat) (d1228 : List Value) (z1227 : Zp), mb7 = l6.length - i7 ∧ i7 ≤ l6.length ∧ forL (go_law10_EditsReplay.b1) (fun l1228 => (nzI (wr ((l1228.length : Int) + 1))).bind fun _ => (cutI l1228 0 (Int.tmod (p1.toNat : Int) (wr ((l1228.length : Int) + 1)))).bind fun l1256 => (apB 1 [] l1228).bind fun l1257 => (apB 1 l1257 p2).bind fun l1260 => loopF (go_law10_EditsReplay.b2 p2 l1256 l1260) fuel 0) i7 (l6.drop i7) l1228 = some r ∧ e' = [(1, vu16 p1), (2, .slice A3 p2.length c3), (7, .slice A1228 l1228.length c1228), (35, .slice A6 l6.length c6), (36, vi (l6.length : Int)), (37, vi (i7 : Int))] ∧ Le z4 z1227 ∧ Le z0 z1227 ∧ Cs tU8 z1227 d1228 l1228 ∧ Ht w0 (frz z1227 :: (orow 5 1 (.slice A1228 l1228.length c1228) l1228.length d1228) :: X) w')) l6.length ⟨0, [], none, 0, [], z4, rfl, Nat.zero_le _, hf, rfl, hm8, hle0, (Cs.nil _ _), hst1229⟩ ?_
    rintro _ e' w1231 ⟨i7, l1228, A1228, c1228, d1228, z1227, rfl, hi7, hf, rfl, hz1231, hy1231_0, f1228, hst1231⟩
    replace f3 := f3.mono hz1231; replace f6 := f6.mono hz1231
    refine Run.seq ?_
    refine Run.region ?_
    refine Ops.ex (Ex.lss rfl rfl) rfl rfl rfl ?_
    refine Ops.nil ?_
    refine Run.seq ?_
    refine Run.cond rfl (fun hc => ?_) (fun hc => ?_)
    · have hl7 := lt_of_dec hc
      obtain ⟨a7, nxb7, ha7, hnxb7, hf⟩ := forL_in hf hl7
      unfold go_law10_EditsReplay.b1 at hf
      try dsimp only at hf
      refine Run.skip ?_
      refine Run.seq ?_
      refine Run.block ?_
      refine Run.seq ?_
      refine Run.region ?_
      obtain ⟨g1240, p1240, o1240, cs1240, hA1240, ho1240, hr1240, f1240⟩ := SlH.elem f6.toH (atI_nat ha7)
      obtain ⟨A1232, c1232, A1233, c1233, rfl, f1232, f1233⟩ := hr1240
      refine Ops.ex (Ex.ixA hA1240 ho1240 (atI_nat ha7) rfl rfl rfl Try.underlying36 sz32) rfl rfl rfl ?_
      refine Ops.loadAgg [.slice A1232 a7.Add.length c1232, .slice A1233 a7.Drop.length c1233, vu8 a7.Floor, vb a7.Odd, vs a7.Any.Name, vi a7.Any.Kind, vi a7.Any.From, vi a7.Any.To] rfl Try.underlying32 rfl sz32 rfl (cells_of_zc rfl (f1240.mono hst1231.le)) rfl ?_
      refine Ops.allocF [.slice none 0 0, .slice none 0 0, vu8 0, vb false, vs [], vi 0, vi 0, vi 0] hst1231 zr32 rfl rfl (fun g1241 w1241 hst1241 => ?_)
      refine Ops.store 1 [.slice A1232 a7.Add.length c1232, .slice A1233 a7.Drop.length c1233, vu8 a7.Floor, vb a7.Odd, vs a7.Any.Name, vi a7.Any.Kind, vi a7.Any.From, vi a7.Any.To] hst1241 rfl rfl rfl rfl sz32 rfl (by simp [Value.oneCell']) (by simp) (fun w1242 hst1242 => ?_)
      refine Ops.nil ?_
      refine Run.seq ?_
      refine Run.region ?_
      refine Ops.loadAgg _ rfl Try.underlying32 rfl sz32 rfl (hst1242.cells (i := 1) rfl 0 8) rfl ?_
      obtain ⟨y1243, hy1243, hf⟩ := bnd hf
      refine Ops.call rfl rfl Try.func12 (by kernel_rfl) (by kernel_rfl) rfl (go_law10_Step_Edit.walk (p0 := a7) (hst := hst1242) (f1 := f1232) (f2 := f1233) (hf := hy1243)) ?_
      rintro _ w1243 ⟨z1243, A1244, c1244, A1245, c1245, rfl, hz1243, f1244, f1245, hst1243⟩
      refine ⟨_, rfl, ?_⟩
      replace f3 := f3.mono hz1243; replace f6 := f6.mono hz1243; replace f1240 := f1240.mono hz1243; replace f1232 := f1232.mono hz1243; replace f1233 := f1233.mono hz1243; replace f1228 := f1228.mono hz1243
      replace hy1231_0 := hy1231_0.trans hz1243
      replace hz1231 := hz1231.trans hz1243
      obtain ⟨y1247, hy1247, hf⟩ := bnd hf
      refine Ops.call rfl rfl Try.func18 (by kernel_rfl) (by kernel_rfl) rfl (go_edits_Bytes.walk (p0 := y1243) (hst := hst1243) (f1 := f1244) (f2 := f1245) (hf := hy1247)) ?_
      rintro _ w1247 ⟨z1247, A1248, c1248, rfl, hz1247, f1248, hst1247⟩
      refine ⟨_, rfl, ?_⟩
      replace f3 := f3.mono hz1247; replace f6 := f6.mono hz1247; replace f1240 := f1240.mono hz1247; replace f1232 := f1232.mono hz1247; replace f1233 := f1233.mono hz1247; replace f1244 := f1244.mono hz1247; replace f1245 := f1245.mono hz1247; replace f1228 := f1228.mono hz1247
      replace hy1231_0 := hy1231_0.trans hz1247
      replace hz1231 := hz1231.trans hz1247
      obtain ⟨y1249, hy1249, hf⟩ := bnd hf
      refine Ops.call rfl rfl Try.func22 (by kernel_rfl) (by kernel_rfl) rfl (go_frame_Make.walk (p0 := y1247) (hst := hst1247) (f1 := f1248) (hf := hy1249)) ?_
      rintro _ w1249 ⟨z1249, A1250, c1250, rfl, hz1249, f1250, hst1249⟩
      refine ⟨_, rfl, ?_⟩
      replace f3 := f3.mono hz1249; replace f6 := f6.mono hz1249; replace f1240 := f1240.mono hz1249; replace f1232 := f1232.mono hz1249; replace f1233 := f1233.mono hz1249; replace f1244 := f1244.mono hz1249; replace f1245 := f1245.mono hz1249; replace f1248 := f1248.mono hz1249; replace f1228 := f1228.mono hz1249
      replace hy1231_0 := hy1231_0.trans hz1249
      replace hz1231 := hz1231.trans hz1249
      refine Ops.ex (Ex.move rfl) rfl rfl rfl ?_
      refine Ops.ex (Ex.extract rfl rfl) rfl rfl rfl ?_
      refine Ops.ex (Ex.extract rfl rfl) rfl rfl rfl ?_
      refine Ops.ex (Ex.assign rfl) rfl rfl rfl ?_
      refine Ops.ex (Ex.assign rfl) rfl rfl rfl ?_
      refine Ops.nil ?_
      refine Run.region ?_
      refine Ops.ex (Ex.move rfl) rfl rfl rfl ?_
      refine Ops.ex (Ex.move rfl) rfl rfl rfl ?_
      obtain ⟨l1252, hy1252, hf⟩ := bnd hf
      refine Ops.app 2 hst1249 rfl f1228 rfl (f1250.at_ hst1249) rfl hy1252 rfl rfl rfl rfl Try.underlying30 inf5 rfl (by decide) (by decide) rfl (fun A1252 c1252 d1252 w1252 f1252 hst1252 => ?_)
      refine Ops.ex (Ex.assign rfl) rfl rfl rfl ?_
      refine Ops.nil ?_
      refine Run.endBlk ?_
      refine Run.region ?_
      refine Ops.ex (Ex.add rfl rfl) rfl rfl rfl ?_
      refine Ops.ex (Ex.move rfl) rfl rfl rfl ?_
      refine Ops.nil ?_
      refine Run.re 37 rfl (congrArg vi (wr_succ' hl7 hc7)) ?_
      exact Run.sub (by exact subB_spec ⟨rfl, rfl, rfl, rfl, rfl, rfl, trivial⟩) (Run.stop ⟨l6.length - (i7 + 1), by omega, i7 + 1, l1252, A1252, c1252, d1252, z1249, rfl, by omega, (hnxb7 _).symm.trans hf, rfl, hz1231, hy1231_0, f1252, (St.forget hst1252 1)⟩)
    · replace hf := forL_out hf (nlt_of_dec hc)
      try dsimp only at hf
      refine Run.exit _ rfl ?_
      refine Run.seq ?_
      refine Run.seq ?_
      have hm1254 := Le.refl z1227
      refine Run.drawH [] (by kernel_rfl) hst1231 (fun w1253 hst1253 => ?_)
      refine Any.takeE 0 rfl rfl rfl rfl (by kernel_rfl) (fun _ _ _ _ _ h => h) ((Ex.move rfl).s) ?_
      refine Any.takeE 1 rfl rfl rfl rfl (by kernel_rfl) (fun _ _ _ _ _ h => h) ((Ex.move rfl).s) ?_
      refine Any.takeE 2 rfl rfl rfl rfl (by kernel_rfl) (fun _ _ _ _ _ h => h) ((Ex.cu16 rfl Try.underlying52 Try.underlying3).s) ?_
      refine Any.takeE 3 rfl rfl rfl rfl (by kernel_rfl) (fun _ _ _ _ _ h => h) ((Ex.move rfl).s) ?_
      refine Any.takeE 4 rfl rfl rfl rfl (by kernel_rfl) (fun _ _ _ _ _ h => h) ((Ex.len' rfl rfl rfl Try.underlying30).s) ?_
      refine Any.takeE 5 rfl rfl rfl rfl (by kernel_rfl) (fun _ _ _ _ _ h => h) ((Ex.add rfl rfl).s) ?_
      obtain ⟨_, hy1255, hf⟩ := bnd hf
      refine Any.takeE 6 rfl rfl rfl rfl (by kernel_rfl) (fun _ _ _ _ _ h => h) ((Ex.rem rfl rfl (nzI_some hy1255)).s) ?_
      obtain ⟨l1256, hy1256, hf⟩ := bnd hf
      obtain ⟨hl1256, f1256⟩ := own_pre f1228 rfl (hst1253.get (i := 1) rfl) hy1256
      refine Any.takeE 7 rfl rfl rfl rfl (by kernel_rfl) (fun _ _ _ _ _ h => h) ((Ex.preA hl1256 hy1256 rfl rfl Try.underlying30 sz5 rfl rfl).s) ?_
      refine Any.takeE 8 rfl rfl rfl rfl (by kernel_rfl) (fun _ _ _ _ _ h => h) ((Ex.move rfl).s) ?_
      refine Any.takeE 10 rfl rfl rfl rfl (by kernel_rfl) (fun _ _ _ _ _ h => h) ((Ex.move rfl).s) ?_
      refine Any.takeE 12 rfl rfl rfl rfl (by kernel_rfl) (fun _ _ _ _ _ h => h) ((Ex.move rfl).s) ?_
      refine Any.takeE 15 rfl rfl rfl rfl (by kernel_rfl) (fun _ _ _ _ _ h => h) ((Ex.move rfl).s) ?_
      have hst1258 := hst1253.row0 5 1
      obtain ⟨l1257, hy1257, hf⟩ := bnd hf
      refine Any.one 9 (by kernel_rfl) rfl rfl (One.of_ops rfl ?_)
      refine Ops.app 1 hst1258 rfl (Cs.nil tU8 z1227) rfl (own_slh f1228 rfl (hst1258.get (i := 2) rfl)) rfl hy1257 rfl rfl rfl rfl Try.underlying30 inf5 rfl (by decide) (by decide) rfl (fun A1257 c1257 d1257 w1257 f1257 hst1257 => Ops.stop ?_)
      refine ⟨trivial, ?_⟩
      obtain ⟨l1260, hy1260, hf⟩ := bnd hf
      refine Any.one 11 (by kernel_rfl) rfl rfl (One.of_ops rfl ?_)
      refine Ops.app 1 hst1257 rfl f1257 rfl (f3.at_ hst1257) rfl hy1260 rfl rfl rfl rfl Try.underlying30 inf5 rfl (by decide) (by decide) rfl (fun A1260 c1260 d1260 w1260 f1260 hst1260 => Ops.stop ?_)
      refine ⟨trivial, ?_⟩
      obtain ⟨z1262, hz1262, hp1262, f1262, hst1262⟩ := St.freezeP (τ := tU8) (xs := l1228) (St.up (St.up (St.up hst1260 1 rfl) 2 rfl) 2 rfl) f1228 rfl
      have fv1262_0 := SlH.lift (f1256 _ hp1262) hz1262
      replace f3 := f3.mono hz1262; replace f6 := f6.mono hz1262; replace f1260 := f1260.mono hz1262
      replace hy1231_0 := hy1231_0.trans hz1262
      replace hz1231 := hz1231.trans hz1262
      replace hm1254 := hm1254.trans hz1262
      obtain ⟨z1263, hz1263, f1263, hst1263⟩ := St.freeze (τ := tU8) (xs := l1260) hst1262 f1260 rfl
      replace f3 := f3.mono hz1263; replace f1262 := f1262.mono hz1263; replace f6 := f6.mono hz1263; replace fv1262_0 := fv1262_0.mono hz1263
      replace hy1231_0 := hy1231_0.trans hz1263
      replace hz1231 := hz1231.trans hz1263
      replace hm1254 := hm1254.trans hz1263
      refine Any.one 13 (by kernel_rfl) rfl rfl (One.of_ops rfl ?_)
      refine Ops.sliceF [.slice A1228 l1256.length c1228, .slice A1260 l1260.length c1260, .slice A3 p2.length c3] hst1263 rfl Try.underlying53 sz30 zr30 rfl rfl (by kernel_rfl) rfl (by simp [Value.oneCell']) rfl (fun A1261 w1261 hst1261 => Ops.stop ?_)
      have f1261 : Cs (tSl tU8) z1263 [.slice A1228 l1256.length c1228, .slice A1260 l1260.length c1260, .slice A3 p2.length c3] [l1256, l1260, p2] := (Cs.cons (c := [.slice A1228 l1256.length c1228]) ⟨_, _, rfl, fv1262_0⟩ (Cs.cons (c := [.slice A1260 l1260.length c1260]) ⟨_, _, rfl, f1263⟩ (Cs.cons (c := [.slice A3 p2.length c3]) ⟨_, _, rfl, f3⟩ (Cs.nil _ _))))
      refine ⟨trivial, ?_⟩
      refine Any.takeE 14 rfl rfl rfl rfl (by kernel_rfl) (fun _ _ _ _ _ h => h) ((Ex.len' rfl rfl rfl Try.underlying53).s) ?_
      refine Any.done (by kernel_rfl) ?_
      refine Run.block ?_
      have hm1265 := Le.refl z1263
      refine Run.sub (e' := [(65, .slice A1261 [l1256, l1260, p2].length 3), (66, vi ([l1256, l1260, p2].length : Int)), (67, vi 0)]) (subB_spec ⟨rfl, rfl, rfl, trivial⟩) ?_
      refine Run.loop (fun mb1264 => (fun e' w' => ∃ (x1648 : Int) (z1647 : Zp), loopF (go_law10_EditsReplay.b2 p2 l1256 l1260) mb1264 x1648 = some r ∧ e' = [(65, .slice A1261 [l1256, l1260, p2].length 3), (66, vi ([l1256, l1260, p2].length : Int)), (67, vi x1648)] ∧ Le z1263 z1647 ∧ Le z0 z1647 ∧ Le z4 z1647 ∧ Le z1227 z1647 ∧ Ht w0 (frz z1647 :: (orow 30 1 (.slice A1261 [l1256, l1260, p2].length 3) [l1256, l1260, p2].length [.slice A1228 l1256.length c1228, .slice A1260 l1260.length c1260, .slice A3 p2.length c3]) :: X) w')) fuel ⟨0, z1263, hf, rfl, hm1265, hy1231_0, hz1231, hm1254, hst1261⟩ ?_
      rintro mb1264 e' w1649 ⟨x1648, z1647, hf, rfl, hz1649, hy1649_0, hy1649_1, hy1649_2, hst1649⟩
      replace f1261 := f1261.mono hz1649
      obtain ⟨mb1264', nxb1264, rfl, hnxb1264, hf⟩ := loopF_in hf
      unfold go_law10_EditsReplay.b2 at hf
      try dsimp only at hf
      refine Run.seq ?_
      refine Run.region ?_
      refine Ops.ex (Ex.lss rfl rfl) rfl rfl rfl ?_
      refine Ops.nil ?_
      refine Run.seq ?_
      refine Run.cond rfl (fun hc => ?_) (fun hc => ?_)
      · replace hf := ifT (dec_T hc) hf
        refine Run.skip ?_
        refine Run.seq ?_
        refine Run.block ?_
        refine Run.seq ?_
        refine Run.region ?_
        obtain ⟨y1650, hy1650, hf⟩ := bnd hf
        obtain ⟨g1652, p1652, o1652, cs1652, hA1652, ho1652, hr1652, f1652⟩ := own_elem f1261 rfl (hst1649.get (i := 1) rfl) hy1650
        obtain ⟨A1651, c1651, rfl, f1651⟩ := hr1652
        refine Ops.ex (Ex.ixA hA1652 ho1652 hy1650 rfl rfl rfl Try.underlying53 sz30) rfl rfl rfl ?_
        refine Ops.load rfl Try.underlying30 rfl ((f1652 _ (hst1649.get (i := 1) rfl)) 0 _ rfl) rfl ?_
        refine Ops.ex (Ex.assign rfl) rfl rfl rfl ?_
        refine Ops.nil ?_
        refine Run.seq ?_
        refine Run.region ?_
        refine Ops.mkmap hst1649 rfl (fun g1653 w1653 hst1653 => ?_)
        refine Ops.ex (Ex.assign rfl) rfl rfl rfl ?_
        refine Ops.ex (Ex.assign rfl) rfl rfl rfl ?_
        refine Ops.ex (Ex.assign rfl) rfl rfl rfl ?_
        refine Ops.nil ?_
        refine Run.seq ?_
        refine Run.region ?_
        refine Ops.ex (Ex.move rfl) rfl rfl rfl ?_
        obtain ⟨y1654, hy1654, hf⟩ := bnd hf
        refine Ops.call rfl rfl Try.func26 (by kernel_rfl) (by kernel_rfl) rfl (go_frame_Rows.walk (p0 := y1650) (hst := hst1653) (f1 := f1651) (hf := hy1654)) ?_
        rintro _ w1654 ⟨z1654, A1655, c1655, rfl, hz1654, f1655, hst1654⟩
        refine ⟨_, rfl, ?_⟩
        replace f1651 := f1651.mono hz1654; replace f1261 := f1261.mono hz1654
        replace hy1649_0 := hy1649_0.trans hz1654
        replace hy1649_1 := hy1649_1.trans hz1654
        replace hy1649_2 := hy1649_2.trans hz1654
        replace hz1649 := hz1649.trans hz1654
        refine Ops.ex (Ex.move rfl) rfl rfl rfl ?_
        refine Ops.ex (Ex.extract rfl rfl) rfl rfl rfl ?_
        refine Ops.ex (Ex.extract rfl rfl) rfl rfl rfl ?_
        refine Ops.ex (Ex.extract rfl rfl) rfl rfl rfl ?_
        refine Ops.ex (Ex.assign rfl) rfl rfl rfl ?_
        refine Ops.ex (Ex.assign rfl) rfl rfl rfl ?_
        refine Ops.ex (Ex.assign rfl) rfl rfl rfl ?_
        refine Ops.nil ?_
        refine Run.seq ?_
        refine Run.seq ?_
        refine Run.region ?_
        refine Ops.ex (Ex.move rfl) rfl rfl rfl ?_
        refine Ops.ex (Ex.len' rfl rfl rfl Try.underlying53) rfl rfl rfl ?_
        refine Ops.ex (Ex.move rfl) rfl rfl rfl ?_
        refine Ops.nil ?_
        refine Run.block ?_
        have hc1658 := f1655.cap
        have hm1659 := Le.refl z1654
        obtain ⟨z1731, hz1731, f1731, hst1731⟩ := St.freezeM hst1654 (Mr.nil tapiRef pkA _)
        replace f1651 := f1651.mono hz1731; replace f1655 := f1655.mono hz1731; replace f1261 := f1261.mono hz1731
        replace hy1649_0 := hy1649_0.trans hz1731
        replace hy1649_1 := hy1649_1.trans hz1731
        replace hy1649_2 := hy1649_2.trans hz1731
        replace hz1649 := hz1649.trans hz1731
        replace hm1659 := hm1659.trans hz1731
        have hm1732 := Le.refl z1731
        refine Run.sub (e' := [(13, .slice A1651 y1650.length c1651), (14, .map (some g1653)), (15, vi 0), (16, vb false), (18, vi y1654.2.1), (65, .slice A1261 [l1256, l1260, p2].length 3), (66, vi ([l1256, l1260, p2].length : Int)), (67, vi x1648), (78, .slice A1655 y1654.1.length c1655), (79, vi (y1654.1.length : Int)), (80, vi ((0 : Nat) : Int))]) (subB_spec ⟨rfl, rfl, rfl, rfl, rfl, rfl, rfl, rfl, rfl, rfl, rfl, trivial⟩) ?_
        refine Run.loop (fun mb1658 => (fun e' w' => ∃ (i1658 : Nat) (mp1803 : Mp apiRef) (x1804 : Int) (b1805 : Bool) (M1803 : Option Nat) (z1802 : Zp), mb1658 = y1654.1.length - i1658 ∧ i1658 ≤ y1654.1.length ∧ forL (go_law10_EditsReplay.b3) (fun (mp1803, x1804, b1805) => (go_edits_Replay y1650).bind fun y1826 => if b1805 then (if y1826.2.2 = 10 then (if y1826.2.1 = 0 then (if (y1826.1.Refs.length : Int) = 0 then (if b1805 then (nxb1264 (wr (x1648 + 1))) else (if y1826.2.2 = 0 then (if y1826.2.1 = y1654.2.1 then ((go_law10_Shows y1826.1 mp1803 x1804).bind fun y1833 => if y1833 then (nxb1264 (wr (x1648 + 1))) else (some false)) else (some false)) else (some false))) else (some false)) else (some false)) else (some false)) else (if b1805 then (nxb1264 (wr (x1648 + 1))) else (if y1826.2.2 = 0 then (if y1826.2.1 = y1654.2.1 then ((go_law10_Shows y1826.1 mp1803 x1804).bind fun y1835 => if y1835 then (nxb1264 (wr (x1648 + 1))) else (some false)) else (some false)) else (some false)))) i1658 (y1654.1.drop i1658) (mp1803, x1804, b1805) = some r ∧ e' = [(13, .slice A1651 y1650.length c1651), (14, .map M1803), (15, vi x1804), (16, vb b1805), (18, vi y1654.2.1), (65, .slice A1261 [l1256, l1260, p2].length 3), (66, vi ([l1256, l1260, p2].length : Int)), (67, vi x1648), (78, .slice A1655 y1654.1.length c1655), (79, vi (y1654.1.length : Int)), (80, vi (i1658 : Int))] ∧ Le z1731 z1802 ∧ Le z0 z1802 ∧ Le z4 z1802 ∧ Le z1227 z1802 ∧ Le z1263 z1802 ∧ Le z1654 z1802 ∧ Mz tapiRef pkA z1802 M1803 mp1803 ∧ Ht w0 (frz z1802 :: (orow 30 1 (.slice A1261 [l1256, l1260, p2].length 3) [l1256, l1260, p2].length [.slice A1228 l1256.length c1228, .slice A1260 l1260.length c1260, .slice A3 p2.length c3]) :: X) w')) y1654.1.length ⟨0, [], 0, false, (some g1653), z1731, rfl, Nat.zero_le _, hf, rfl, hm1732, hy1649_0, hy1649_1, hy1649_2, hz1649, hm1659, f1731, hst1731⟩ ?_
        rintro _ e' w1806 ⟨i1658, mp1803, x1804, b1805, M1803, z1802, rfl, hi1658, hf, rfl, hz1806, hy1806_0, hy1806_1, hy1806_2, hy1806_3, hy1806_4, f1803, hst1806⟩
        replace f1651 := f1651.mono hz1806; replace f1655 := f1655.mono hz1806; replace f1261 := f1261.mono hz1806
        refine Run.seq ?_
        refine Run.region ?_
        refine Ops.ex (Ex.lss rfl rfl) rfl rfl rfl ?_
        refine Ops.nil ?_
        refine Run.seq ?_
        refine Run.cond rfl (fun hc => ?_) (fun hc => ?_)
        · have hl1658 := lt_of_dec hc
          obtain ⟨a1658, nxb1658, ha1658, hnxb1658, hf⟩ := forL_in hf hl1658
          unfold go_law10_EditsReplay.b3 at hf
          try dsimp only at hf
          refine Run.skip ?_
          refine Run.seq ?_
          refine Run.block ?_
          refine Run.seq ?_
          refine Run.region ?_
          obtain ⟨g1808, p1808, o1808, cs1808, hA1808, ho1808, hr1808, f1808⟩ := SlH.elem f1655.toH (atI_nat ha1658)
          obtain ⟨A1807, c1807, rfl, f1807⟩ := hr1808
          refine Ops.ex (Ex.ixA hA1808 ho1808 (atI_nat ha1658) rfl rfl rfl Try.underlying53 sz30) rfl rfl rfl ?_
          refine Ops.load rfl Try.underlying30 rfl ((f1808.mono hst1806.le) 0 _ rfl) rfl ?_
          refine Ops.ex (Ex.assign rfl) rfl rfl rfl ?_
          refine Ops.nil ?_
          refine Run.seq ?_
          refine Run.region ?_
          refine Ops.ex (Ex.move rfl) rfl rfl rfl ?_
          obtain ⟨y1809, hy1809, hf⟩ := bnd hf
          refine Ops.call rfl rfl Try.func19 (by kernel_rfl) (by kernel_rfl) rfl (go_edits_Read.walk (p0 := a1658) (hst := hst1806) (f1 := f1807) (hf := hy1809)) ?_
          rintro _ w1809 ⟨z1809, A1810, c1810, A1811, c1811, rfl, hz1809, f1810, f1811, hst1809⟩
          refine ⟨_, rfl, ?_⟩
          replace f1651 := f1651.mono hz1809; replace f1803 := f1803.mono hz1809; replace f1655 := f1655.mono hz1809; replace f1808 := f1808.mono hz1809; replace f1807 := f1807.mono hz1809; replace f1261 := f1261.mono hz1809
          replace hy1806_0 := hy1806_0.trans hz1809
          replace hy1806_1 := hy1806_1.trans hz1809
          replace hy1806_2 := hy1806_2.trans hz1809
          replace hy1806_3 := hy1806_3.trans hz1809
          replace hy1806_4 := hy1806_4.trans hz1809
          replace hz1806 := hz1806.trans hz1809
          refine Ops.ex (Ex.move rfl) rfl rfl rfl ?_
          refine Ops.ex (Ex.extract rfl rfl) rfl rfl rfl ?_
          refine Ops.ex (Ex.extract rfl rfl) rfl rfl rfl ?_
          refine Ops.allocF [.slice none 0 0, .slice none 0 0, vi 0] hst1809 zr29 rfl rfl (fun g1814 w1814 hst1814 => ?_)
          refine Ops.store 1 [.slice A1810 y1809.1.Add.length c1810, .slice A1811 y1809.1.Drop.length c1811, vi y1809.1.Floor] hst1814 rfl rfl rfl rfl sz29 rfl (by simp [Value.oneCell']) (by simp) (fun w1815 hst1815 => ?_)
          refine Ops.ex (Ex.assign rfl) rfl rfl rfl ?_
          refine Ops.nil ?_
          refine Run.seq ?_
          refine Run.region ?_
          refine Ops.ex (Ex.move rfl) rfl rfl rfl ?_
          refine Ops.ex (Ex.move rfl) rfl rfl rfl ?_
          refine Ops.loadAgg _ rfl Try.underlying29 rfl sz29 rfl (hst1815.cells (i := 1) rfl 0 3) rfl ?_
          obtain ⟨y1816, hy1816, hf⟩ := bnd hf
          refine Ops.call rfl rfl Try.func21 (by kernel_rfl) (by kernel_rfl) rfl (go_law10_do.walk (p0 := mp1803) (p1 := x1804) (p2 := y1809.1) (hst := hst1815) (f1 := f1803) (f3 := f1810) (f4 := f1811) (hf := hy1816)) ?_
          rintro _ w1816 ⟨z1816, M1817, rfl, hz1816, f1817, hst1816⟩
          refine ⟨_, rfl, ?_⟩
          replace f1651 := f1651.mono hz1816; replace f1803 := f1803.mono hz1816; replace f1655 := f1655.mono hz1816; replace f1808 := f1808.mono hz1816; replace f1807 := f1807.mono hz1816; replace f1810 := f1810.mono hz1816; replace f1811 := f1811.mono hz1816; replace f1261 := f1261.mono hz1816
          replace hy1806_0 := hy1806_0.trans hz1816
          replace hy1806_1 := hy1806_1.trans hz1816
          replace hy1806_2 := hy1806_2.trans hz1816
          replace hy1806_3 := hy1806_3.trans hz1816
          replace hy1806_4 := hy1806_4.trans hz1816
          replace hz1806 := hz1806.trans hz1816
          refine Ops.ex (Ex.move rfl) rfl rfl rfl ?_
          refine Ops.ex (Ex.extract rfl rfl) rfl rfl rfl ?_
          refine Ops.ex (Ex.extract rfl rfl) rfl rfl rfl ?_
          refine Ops.ex (Ex.assign rfl) rfl rfl rfl ?_
          refine Ops.ex (Ex.assign rfl) rfl rfl rfl ?_
          refine Ops.nil ?_
          refine Run.seq ?_
          have hm1820 := Le.refl z1816
          apply Run.jn (fun e' w' => ∃ (b1822 : Bool) (z1821 : Zp), go_law10_EditsReplay.j1 mp1803 x1804 nxb1658 y1809 y1816 b1822 = some r ∧ e' = [(13, .slice A1651 y1650.length c1651), (14, .map M1803), (15, vi x1804), (16, vb b1822), (18, vi y1654.2.1), (22, .pointer (some ⟨g1814, 0, none⟩)), (24, .map M1817), (65, .slice A1261 [l1256, l1260, p2].length 3), (66, vi ([l1256, l1260, p2].length : Int)), (67, vi x1648), (78, .slice A1655 y1654.1.length c1655), (79, vi (y1654.1.length : Int)), (80, vi (i1658 : Int))] ∧ Le z1816 z1821 ∧ Le z0 z1821 ∧ Le z4 z1821 ∧ Le z1227 z1821 ∧ Le z1263 z1821 ∧ Le z1654 z1821 ∧ Le z1731 z1821 ∧ Ht w0 (frz z1821 :: (blk g1814 [.slice A1810 y1809.1.Add.length c1810, .slice A1811 y1809.1.Drop.length c1811, vi y1809.1.Floor] 29) :: (orow 30 1 (.slice A1261 [l1256, l1260, p2].length 3) [l1256, l1260, p2].length [.slice A1228 l1256.length c1228, .slice A1260 l1260.length c1260, .slice A3 p2.length c3]) :: X) w')
          · intro hj1819
            refine Run.region ?_
            refine Ops.ex (Ex.move rfl) rfl rfl rfl ?_
            refine Ops.ex (Ex.move rfl) rfl rfl rfl ?_
            refine Ops.case 97 rfl (fun hc => ?_) (fun hc => ?_)
            · replace hf := ifTb hc hf
              refine Ops.off rfl rfl ?_
              refine Ops.off rfl rfl ?_
              refine Ops.ex (Ex.pickT rfl rfl) rfl rfl rfl ?_
              refine Ops.ex (Ex.move rfl) rfl rfl rfl ?_
              refine Ops.off rfl rfl ?_
              refine Ops.off rfl rfl ?_
              refine Ops.ex (Ex.pickT rfl rfl) rfl rfl rfl ?_
              refine Ops.ex (Ex.assign rfl) rfl rfl rfl ?_
              refine Ops.nil ?_
              exact Run.sub (by exact subB_spec ⟨rfl, rfl, rfl, rfl, rfl, rfl, rfl, rfl, rfl, rfl, rfl, rfl, rfl, trivial⟩) (hj1819 _ _ ⟨true, z1816, hf, rfl, hm1820, hy1806_0, hy1806_1, hy1806_2, hy1806_3, hy1806_4, hz1806, hst1816⟩)
            · replace hf := ifFb hc hf
              refine Ops.on rfl ?_
              refine Ops.ex (Ex.move rfl) rfl rfl rfl ?_
              refine Ops.on rfl ?_
              refine Ops.ex (Ex.not rfl) rfl rfl rfl ?_
              refine Ops.ex (Ex.pickF rfl rfl) rfl rfl rfl ?_
              refine Ops.ex (Ex.move rfl) rfl rfl rfl ?_
              refine Ops.case 101 rfl (fun hc => ?_) (fun hc => ?_)
              · replace hf := ifFb (bn_T hc) hf
                refine Ops.off rfl rfl ?_
                refine Ops.off rfl rfl ?_
                refine Ops.ex (Ex.pickT rfl rfl) rfl rfl rfl ?_
                refine Ops.ex (Ex.assign rfl) rfl rfl rfl ?_
                refine Ops.nil ?_
                exact Run.sub (by exact subB_spec ⟨rfl, rfl, rfl, rfl, rfl, rfl, rfl, rfl, rfl, rfl, rfl, rfl, rfl, trivial⟩) (hj1819 _ _ ⟨true, z1816, hf, rfl, hm1820, hy1806_0, hy1806_1, hy1806_2, hy1806_3, hy1806_4, hz1806, hst1816⟩)
              · replace hf := ifTb (bn_F hc) hf
                refine Ops.on rfl ?_
                refine Ops.ex (Ex.move rfl) rfl rfl rfl ?_
                refine Ops.on rfl ?_
                refine Ops.ex (Ex.neqI rfl rfl) rfl rfl rfl ?_
                refine Ops.ex (Ex.pickF rfl rfl) rfl rfl rfl ?_
                refine Ops.ex (Ex.assign rfl) rfl rfl rfl ?_
                refine Ops.nil ?_
                exact Run.sub (by exact subB_spec ⟨rfl, rfl, rfl, rfl, rfl, rfl, rfl, rfl, rfl, rfl, rfl, rfl, rfl, trivial⟩) (hj1819 _ _ ⟨!(decide (y1816.2 = 0)), z1816, hf, rfl, hm1820, hy1806_0, hy1806_1, hy1806_2, hy1806_3, hy1806_4, hz1806, hst1816⟩)
          · rintro e' w1823 ⟨b1822, z1821, hf, rfl, hz1823, hy1823_0, hy1823_1, hy1823_2, hy1823_3, hy1823_4, hy1823_5, hst1823⟩
            replace f1651 := f1651.mono hz1823; replace f1803 := f1803.mono hz1823; replace f1817 := f1817.mono hz1823; replace f1655 := f1655.mono hz1823; replace f1810 := f1810.mono hz1823; replace f1811 := f1811.mono hz1823; replace f1261 := f1261.mono hz1823
            unfold go_law10_EditsReplay.j1 at hf
            refine Run.seq ?_
            refine Run.region ?_
            refine Ops.ex (Ex.move rfl) rfl rfl rfl ?_
            refine Ops.ex (Ex.not rfl) rfl rfl rfl ?_
            refine Ops.nil ?_
            refine Run.cond rfl (fun hc => ?_) (fun hc => ?_)
            · replace hf := ifFb (bn_T hc) hf
              have hm1825 := Le.refl z1821
              refine Run.drawH [([], fun w => ∃ ζ Y, Le z1821 ζ ∧ Ht w0 (frz ζ :: (blk g1814 [.slice A1810 y1809.1.Add.length c1810, .slice A1811 y1809.1.Drop.length c1811, vi y1809.1.Floor] 29) :: (orow 30 1 (.slice A1261 [l1256, l1260, p2].length 3) [l1256, l1260, p2].length [.slice A1228 l1256.length c1228, .slice A1260 l1260.length c1260, .slice A3 p2.length c3]) :: Y) w)] (by kernel_rfl) hst1823 (fun w1824 hst1824 => ?_)
              have hS0 := (⟨_, _, (Le.refl _), (St.up (St.up (St.up hst1824 2 rfl) 2 rfl) 2 rfl)⟩ : (fun w => ∃ ζ Y, Le z1821 ζ ∧ Ht w0 (frz ζ :: (blk g1814 [.slice A1810 y1809.1.Add.length c1810, .slice A1811 y1809.1.Drop.length c1811, vi y1809.1.Floor] 29) :: (orow 30 1 (.slice A1261 [l1256, l1260, p2].length 3) [l1256, l1260, p2].length [.slice A1228 l1256.length c1228, .slice A1260 l1260.length c1260, .slice A3 p2.length c3]) :: Y) w) _)
              refine Any.takeE 0 rfl rfl rfl rfl (by kernel_rfl) (fun _ _ _ _ _ h => h) ((Ex.move rfl).s) ?_
              refine Any.takeE 1 rfl rfl rfl rfl (by kernel_rfl) (fun _ _ _ _ _ h => h) ((Ex.fieldAddr rfl Try.underlying29 rfl sz3).s) ?_
              refine Any.take 0 2 rfl rfl rfl rfl rfl (by kernel_rfl) (fun _ _ _ _ _ h => h) (ExS.load rfl Try.underlying3 rfl (fun w hS => by obtain ⟨_, _, _, hs⟩ := hS; exact hs.cell (i := 1) rfl rfl)) hS0 ?_
              refine Any.takeE 3 rfl rfl rfl rfl (by kernel_rfl) (fun _ _ _ _ _ h => h) ((Ex.assign rfl).s) ?_
              refine Any.takeE 4 rfl rfl rfl rfl (by kernel_rfl) (fun _ _ _ _ _ h => h) ((Ex.assign rfl).s) ?_
              refine Any.done (by kernel_rfl) ?_
              refine Run.endBlk ?_
              refine Run.region ?_
              refine Ops.ex (Ex.add rfl rfl) rfl rfl rfl ?_
              refine Ops.ex (Ex.move rfl) rfl rfl rfl ?_
              refine Ops.nil ?_
              refine Run.re 80 rfl (congrArg vi (wr_succ' hl1658 hc1658)) ?_
              exact Run.sub (by exact subB_spec ⟨rfl, rfl, rfl, rfl, rfl, rfl, rfl, rfl, rfl, rfl, rfl, trivial⟩) (Run.stop ⟨y1654.1.length - (i1658 + 1), by omega, i1658 + 1, y1816.1, y1809.1.Floor, b1822, M1817, z1821, rfl, by omega, (hnxb1658 _).symm.trans hf, rfl, hy1823_5, hy1823_0, hy1823_1, hy1823_2, hy1823_3, hy1823_4, f1817, (St.forget hst1824 1)⟩)
            · replace hf := ifTb (bn_F hc) hf
              refine Run.skip ?_
              refine Run.endBlk ?_
              refine Run.region ?_
              refine Ops.ex (Ex.add rfl rfl) rfl rfl rfl ?_
              refine Ops.ex (Ex.move rfl) rfl rfl rfl ?_
              refine Ops.nil ?_
              refine Run.re 80 rfl (congrArg vi (wr_succ' hl1658 hc1658)) ?_
              exact Run.sub (by exact subB_spec ⟨rfl, rfl, rfl, rfl, rfl, rfl, rfl, rfl, rfl, rfl, rfl, trivial⟩) (Run.stop ⟨y1654.1.length - (i1658 + 1), by omega, i1658 + 1, mp1803, x1804, b1822, M1803, z1821, rfl, by omega, (hnxb1658 _).symm.trans hf, rfl, hy1823_5, hy1823_0, hy1823_1, hy1823_2, hy1823_3, hy1823_4, f1803, (St.forget hst1823 1)⟩)
        · replace hf := forL_out hf (nlt_of_dec hc)
          try dsimp only at hf
          refine Run.exit _ rfl ?_
          refine Run.seq ?_
          refine Run.region ?_
          refine Ops.ex (Ex.move rfl) rfl rfl rfl ?_
          obtain ⟨y1826, hy1826, hf⟩ := bnd hf
          refine Ops.call rfl rfl Try.func25 (by kernel_rfl) (by kernel_rfl) rfl (go_edits_Replay.walk (p0 := y1650) (hst := hst1806) (f1 := f1651) (hf := hy1826)) ?_
          rintro _ w1826 ⟨z1826, A1827, c1827, rfl, hz1826, f1827, hst1826⟩
          refine ⟨_, rfl, ?_⟩
          replace f1651 := f1651.mono hz1826; replace f1803 := f1803.mono hz1826; replace f1655 := f1655.mono hz1826; replace f1261 := f1261.mono hz1826
          replace hy1806_0 := hy1806_0.trans hz1826
          replace hy1806_1 := hy1806_1.trans hz1826
          replace hy1806_2 := hy1806_2.trans hz1826
          replace hy1806_3 := hy1806_3.trans hz1826
          replace hy1806_4 := hy1806_4.trans hz1826
          replace hz1806 := hz1806.trans hz1826
          refine Ops.ex (Ex.move rfl) rfl rfl rfl ?_
          refine Ops.ex (Ex.extract rfl rfl) rfl rfl rfl ?_
          refine Ops.ex (Ex.extract rfl rfl) rfl rfl rfl ?_
          refine Ops.ex (Ex.extract rfl rfl) rfl rfl rfl ?_
          refine Ops.allocF [.slice none 0 0, vi 0] hst1826 zr38 rfl rfl (fun g1831 w1831 hst1831 => ?_)
          refine Ops.store 1 [.slice A1827 y1826.1.Refs.length c1827, vi y1826.1.Floor] hst1831 rfl rfl rfl rfl sz38 rfl (by simp [Value.oneCell']) (by simp) (fun w1832 hst1832 => ?_)
          refine Ops.ex (Ex.assign rfl) rfl rfl rfl ?_
          refine Ops.ex (Ex.assign rfl) rfl rfl rfl ?_
          refine Ops.nil ?_
          refine Run.seq ?_
          refine Run.region ?_
          refine Ops.ex (Ex.move rfl) rfl rfl rfl ?_
          refine Ops.ex (Ex.move rfl) rfl rfl rfl ?_
          refine Ops.case 118 rfl (fun hc => ?_) (fun hc => ?_)
          · replace hf := ifTb hc hf
            refine Ops.on rfl ?_
            refine Ops.ex (Ex.move rfl) rfl rfl rfl ?_
            refine Ops.on rfl ?_
            refine Ops.ex (Ex.neqI rfl rfl) rfl rfl rfl ?_
            refine Ops.on rfl ?_
            refine Ops.ex (Ex.move rfl) rfl rfl rfl ?_
            refine Ops.case 121 rfl (fun hc => ?_) (fun hc => ?_)
            · replace hf := ifF (neq_T hc) hf
              refine Ops.off rfl rfl ?_
              refine Ops.off rfl rfl ?_
              refine Ops.on rfl ?_
              refine Ops.ex (Ex.pickT rfl rfl) rfl rfl rfl ?_
              refine Ops.on rfl ?_
              refine Ops.ex (Ex.move rfl) rfl rfl rfl ?_
              refine Ops.off rfl rfl ?_
              refine Ops.off rfl rfl ?_
              refine Ops.off rfl rfl ?_
              refine Ops.off rfl rfl ?_
              refine Ops.on rfl ?_
              refine Ops.ex (Ex.pickT rfl rfl) rfl rfl rfl ?_
              refine Ops.ex (Ex.pickT rfl rfl) rfl rfl rfl ?_
              refine Ops.ex (Ex.move rfl) rfl rfl rfl ?_
              refine Ops.off rfl rfl ?_
              refine Ops.off rfl rfl ?_
              refine Ops.off rfl rfl ?_
              refine Ops.offU rfl rfl ?_
              refine Ops.offU rfl rfl ?_
              refine Ops.offU rfl rfl ?_
              refine Ops.offU rfl rfl ?_
              refine Ops.offU rfl rfl ?_
              refine Ops.offU rfl rfl ?_
              refine Ops.offU rfl rfl ?_
              refine Ops.offU rfl rfl ?_
              refine Ops.offU rfl rfl ?_
              refine Ops.offU rfl rfl ?_
              refine Ops.offU rfl rfl ?_
              refine Ops.offU rfl rfl ?_
              refine Ops.offU rfl rfl ?_
              refine Ops.offU rfl rfl ?_
              refine Ops.off rfl rfl ?_
              refine Ops.ex (Ex.pickT rfl rfl) rfl rfl rfl ?_
              refine Ops.nil ?_
              refine Run.condT rfl rfl ?_
              refine Run.seq ?_
              refine Run.region ?_
              refine Ops.ex (Ex.assign rfl) rfl rfl rfl ?_
              refine Ops.nil ?_
              obtain rfl := Option.some.inj hf
              exact Run.retV [vb false] rfl ⟨rfl, trivial⟩ ⟨z1826, rfl, hy1806_0, (St.forget (St.forget hst1832 2) 1)⟩
            · replace hf := ifT (neq_F hc) hf
              refine Ops.on rfl ?_
              refine Ops.ex (Ex.move rfl) rfl rfl rfl ?_
              refine Ops.on rfl ?_
              refine Ops.ex (Ex.neqI rfl rfl) rfl rfl rfl ?_
              refine Ops.on rfl ?_
              refine Ops.ex (Ex.pickF rfl rfl) rfl rfl rfl ?_
              refine Ops.on rfl ?_
              refine Ops.ex (Ex.move rfl) rfl rfl rfl ?_
              refine Ops.case 125 rfl (fun hc => ?_) (fun hc => ?_)
              · replace hf := ifF (neq_T hc) hf
                refine Ops.off rfl rfl ?_
                refine Ops.off rfl rfl ?_
                refine Ops.off rfl rfl ?_
                refine Ops.off rfl rfl ?_
                refine Ops.on rfl ?_
                refine Ops.ex (Ex.pickT rfl rfl) rfl rfl rfl ?_
                refine Ops.ex (Ex.pickT rfl rfl) rfl rfl rfl ?_
                refine Ops.ex (Ex.move rfl) rfl rfl rfl ?_
                refine Ops.off rfl rfl ?_
                refine Ops.off rfl rfl ?_
                refine Ops.off rfl rfl ?_
                refine Ops.offU rfl rfl ?_
                refine Ops.offU rfl rfl ?_
                refine Ops.offU rfl rfl ?_
                refine Ops.offU rfl rfl ?_
                refine Ops.offU rfl rfl ?_
                refine Ops.offU rfl rfl ?_
                refine Ops.offU rfl rfl ?_
                refine Ops.offU rfl rfl ?_
                refine Ops.offU rfl rfl ?_
                refine Ops.offU rfl rfl ?_
                refine Ops.offU rfl rfl ?_
                refine Ops.offU rfl rfl ?_
                refine Ops.offU rfl rfl ?_
                refine Ops.offU rfl rfl ?_
                refine Ops.off rfl rfl ?_
                refine Ops.ex (Ex.pickT rfl rfl) rfl rfl rfl ?_
                refine Ops.nil ?_
                refine Run.condT rfl rfl ?_
                refine Run.seq ?_
                refine Run.region ?_
                refine Ops.ex (Ex.assign rfl) rfl rfl rfl ?_
                refine Ops.nil ?_
                obtain rfl := Option.some.inj hf
                exact Run.retV [vb false] rfl ⟨rfl, trivial⟩ ⟨z1826, rfl, hy1806_0, (St.forget (St.forget hst1832 2) 1)⟩
              · replace hf := ifT (neq_F hc) hf
                refine Ops.on rfl ?_
                refine Ops.ex (Ex.fieldAddr rfl Try.underlying38 rfl sz26) rfl rfl rfl ?_
                refine Ops.on rfl ?_
                refine Ops.load rfl Try.underlying26 rfl (hst1832.cell (i := 1) rfl rfl) rfl ?_
                refine Ops.on rfl ?_
                refine Ops.ex (Ex.len' rfl rfl rfl Try.underlying26) rfl rfl rfl ?_
                refine Ops.on rfl ?_
                refine Ops.ex (Ex.neqI rfl rfl) rfl rfl rfl ?_
                refine Ops.on rfl ?_
                refine Ops.ex (Ex.pickF rfl rfl) rfl rfl rfl ?_
                refine Ops.ex (Ex.pickT rfl rfl) rfl rfl rfl ?_
                refine Ops.ex (Ex.move rfl) rfl rfl rfl ?_
                refine Ops.case 132 rfl (fun hc => ?_) (fun hc => ?_)
                · replace hf := ifF (neq_T hc) hf
                  refine Ops.off rfl rfl ?_
                  refine Ops.off rfl rfl ?_
                  refine Ops.off rfl rfl ?_
                  refine Ops.offU rfl rfl ?_
                  refine Ops.offU rfl rfl ?_
                  refine Ops.offU rfl rfl ?_
                  refine Ops.offU rfl rfl ?_
                  refine Ops.offU rfl rfl ?_
                  refine Ops.offU rfl rfl ?_
                  refine Ops.offU rfl rfl ?_
                  refine Ops.offU rfl rfl ?_
                  refine Ops.offU rfl rfl ?_
                  refine Ops.offU rfl rfl ?_
                  refine Ops.offU rfl rfl ?_
                  refine Ops.offU rfl rfl ?_
                  refine Ops.offU rfl rfl ?_
                  refine Ops.offU rfl rfl ?_
                  refine Ops.off rfl rfl ?_
                  refine Ops.ex (Ex.pickT rfl rfl) rfl rfl rfl ?_
                  refine Ops.nil ?_
                  refine Run.condT rfl rfl ?_
                  refine Run.seq ?_
                  refine Run.region ?_
                  refine Ops.ex (Ex.assign rfl) rfl rfl rfl ?_
                  refine Ops.nil ?_
                  obtain rfl := Option.some.inj hf
                  exact Run.retV [vb false] rfl ⟨rfl, trivial⟩ ⟨z1826, rfl, hy1806_0, (St.forget (St.forget hst1832 2) 1)⟩
                · replace hf := ifT (neq_F hc) hf
                  refine Ops.on rfl ?_
                  refine Ops.ex (Ex.move rfl) rfl rfl rfl ?_
                  refine Ops.on rfl ?_
                  refine Ops.ex (Ex.not rfl) rfl rfl rfl ?_
                  refine Ops.on rfl ?_
                  refine Ops.ex (Ex.move rfl) rfl rfl rfl ?_
                  refine Ops.case 135 rfl (fun hc => ?_) (fun hc => ?_)
                  · replace hf := ifFb (bn_T hc) hf
                    refine Ops.on rfl ?_
                    refine Ops.ex (Ex.move rfl) rfl rfl rfl ?_
                    refine Ops.on rfl ?_
                    refine Ops.ex (Ex.neqI rfl rfl) rfl rfl rfl ?_
                    refine Ops.on rfl ?_
                    refine Ops.ex (Ex.move rfl) rfl rfl rfl ?_
                    refine Ops.case 138 rfl (fun hc => ?_) (fun hc => ?_)
                    · replace hf := ifF (neq_T hc) hf
                      refine Ops.off rfl rfl ?_
                      refine Ops.off rfl rfl ?_
                      refine Ops.off rfl rfl ?_
                      refine Ops.on rfl ?_
                      refine Ops.ex (Ex.pickT rfl rfl) rfl rfl rfl ?_
                      refine Ops.on rfl ?_
                      refine Ops.ex (Ex.move rfl) rfl rfl rfl ?_
                      refine Ops.off rfl rfl ?_
                      refine Ops.off rfl rfl ?_
                      refine Ops.off rfl rfl ?_
                      refine Ops.off rfl rfl ?_
                      refine Ops.off rfl rfl ?_
                      refine Ops.on rfl ?_
                      refine Ops.ex (Ex.pickT rfl rfl) rfl rfl rfl ?_
                      refine Ops.on rfl ?_
                      refine Ops.ex (Ex.pickT rfl rfl) rfl rfl rfl ?_
                      refine Ops.ex (Ex.pickF rfl rfl) rfl rfl rfl ?_
                      refine Ops.nil ?_
                      refine Run.condT rfl rfl ?_
                      refine Run.seq ?_
                      refine Run.region ?_
                      refine Ops.ex (Ex.assign rfl) rfl rfl rfl ?_
                      refine Ops.nil ?_
                      obtain rfl := Option.some.inj hf
                      exact Run.retV [vb false] rfl ⟨rfl, trivial⟩ ⟨z1826, rfl, hy1806_0, (St.forget (St.forget hst1832 2) 1)⟩
                    · replace hf := ifT (neq_F hc) hf
                      refine Ops.on rfl ?_
                      refine Ops.ex (Ex.move rfl) rfl rfl rfl ?_
                      refine Ops.on rfl ?_
                      refine Ops.ex (Ex.move rfl) rfl rfl rfl ?_
                      refine Ops.on rfl ?_
                      refine Ops.ex (Ex.neqI rfl rfl) rfl rfl rfl ?_
                      refine Ops.on rfl ?_
                      refine Ops.ex (Ex.pickF rfl rfl) rfl rfl rfl ?_
                      refine Ops.on rfl ?_
                      refine Ops.ex (Ex.move rfl) rfl rfl rfl ?_
                      refine Ops.case 143 rfl (fun hc => ?_) (fun hc => ?_)
                      · replace hf := ifF (neq_T hc) hf
                        refine Ops.off rfl rfl ?_
                        refine Ops.off rfl rfl ?_
                        refine Ops.off rfl rfl ?_
                        refine Ops.off rfl rfl ?_
                        refine Ops.off rfl rfl ?_
                        refine Ops.on rfl ?_
                        refine Ops.ex (Ex.pickT rfl rfl) rfl rfl rfl ?_
                        refine Ops.on rfl ?_
                        refine Ops.ex (Ex.pickT rfl rfl) rfl rfl rfl ?_
                        refine Ops.ex (Ex.pickF rfl rfl) rfl rfl rfl ?_
                        refine Ops.nil ?_
                        refine Run.condT rfl rfl ?_
                        refine Run.seq ?_
                        refine Run.region ?_
                        refine Ops.ex (Ex.assign rfl) rfl rfl rfl ?_
                        refine Ops.nil ?_
                        obtain rfl := Option.some.inj hf
                        exact Run.retV [vb false] rfl ⟨rfl, trivial⟩ ⟨z1826, rfl, hy1806_0, (St.forget (St.forget hst1832 2) 1)⟩
                      · replace hf := ifT (neq_F hc) hf
                        refine Ops.on rfl ?_
                        refine Ops.loadAgg _ rfl Try.underlying38 rfl sz38 rfl (hst1832.cells (i := 1) rfl 0 2) rfl ?_
                        refine Ops.on rfl ?_
                        refine Ops.ex (Ex.move rfl) rfl rfl rfl ?_
                        refine Ops.on rfl ?_
                        refine Ops.ex (Ex.move rfl) rfl rfl rfl ?_
                        refine Ops.on rfl ?_
                        obtain ⟨y1833, hy1833, hf⟩ := bnd hf
                        refine Ops.call rfl rfl Try.func23 (by kernel_rfl) (by kernel_rfl) rfl (go_law10_Shows.walk (p0 := y1826.1) (p1 := mp1803) (p2 := x1804) (hst := hst1832) (f1 := f1827) (f3 := f1803) (hf := hy1833)) ?_
                        rintro _ w1833 ⟨z1833, rfl, hz1833, hst1833⟩
                        refine ⟨_, rfl, ?_⟩
                        replace f1651 := f1651.mono hz1833; replace f1803 := f1803.mono hz1833; replace f1655 := f1655.mono hz1833; replace f1827 := f1827.mono hz1833; replace f1261 := f1261.mono hz1833
                        replace hy1806_0 := hy1806_0.trans hz1833
                        replace hy1806_1 := hy1806_1.trans hz1833
                        replace hy1806_2 := hy1806_2.trans hz1833
                        replace hy1806_3 := hy1806_3.trans hz1833
                        replace hy1806_4 := hy1806_4.trans hz1833
                        replace hz1806 := hz1806.trans hz1833
                        refine Ops.on rfl ?_
                        refine Ops.ex (Ex.not rfl) rfl rfl rfl ?_
                        refine Ops.on rfl ?_
                        refine Ops.ex (Ex.pickF rfl rfl) rfl rfl rfl ?_
                        refine Ops.on rfl ?_
                        refine Ops.ex (Ex.pickT rfl rfl) rfl rfl rfl ?_
                        refine Ops.ex (Ex.pickF rfl rfl) rfl rfl rfl ?_
                        refine Ops.nil ?_
                        refine Run.cond rfl (fun hc => ?_) (fun hc => ?_)
                        · replace hf := ifFb (bn_T hc) hf
                          refine Run.seq ?_
                          refine Run.region ?_
                          refine Ops.ex (Ex.assign rfl) rfl rfl rfl ?_
                          refine Ops.nil ?_
                          obtain rfl := Option.some.inj hf
                          exact Run.retV [vb false] rfl ⟨rfl, trivial⟩ ⟨z1833, rfl, hy1806_0, (St.forget (St.forget hst1833 2) 1)⟩
                        · replace hf := ifTb (bn_F hc) hf
                          refine Run.skip ?_
                          refine Run.endBlk ?_
                          refine Run.region ?_
                          refine Ops.ex (Ex.add rfl rfl) rfl rfl rfl ?_
                          refine Ops.ex (Ex.move rfl) rfl rfl rfl ?_
                          refine Ops.nil ?_
                          exact Run.sub (by exact subB_spec ⟨rfl, rfl, rfl, trivial⟩) (Run.stop ⟨mb1264', Nat.lt_succ_self _, wr (x1648 + 1), z1833, (hnxb1264 _).symm.trans hf, rfl, hy1806_3, hy1806_0, hy1806_1, hy1806_2, (St.forget hst1833 1)⟩)
                  · replace hf := ifTb (bn_F hc) hf
                    refine Ops.off rfl rfl ?_
                    refine Ops.off rfl rfl ?_
                    refine Ops.off rfl rfl ?_
                    refine Ops.offU rfl rfl ?_
                    refine Ops.offU rfl rfl ?_
                    refine Ops.offU rfl rfl ?_
                    refine Ops.off rfl rfl ?_
                    refine Ops.off rfl rfl ?_
                    refine Ops.offU rfl rfl ?_
                    refine Ops.offU rfl rfl ?_
                    refine Ops.offU rfl rfl ?_
                    refine Ops.offU rfl rfl ?_
                    refine Ops.offU rfl rfl ?_
                    refine Ops.off rfl rfl ?_
                    refine Ops.on rfl ?_
                    refine Ops.ex (Ex.pickF rfl rfl) rfl rfl rfl ?_
                    refine Ops.ex (Ex.pickF rfl rfl) rfl rfl rfl ?_
                    refine Ops.nil ?_
                    refine Run.condF rfl rfl ?_
                    refine Run.skip ?_
                    refine Run.endBlk ?_
                    refine Run.region ?_
                    refine Ops.ex (Ex.add rfl rfl) rfl rfl rfl ?_
                    refine Ops.ex (Ex.move rfl) rfl rfl rfl ?_
                    refine Ops.nil ?_
                    exact Run.sub (by exact subB_spec ⟨rfl, rfl, rfl, trivial⟩) (Run.stop ⟨mb1264', Nat.lt_succ_self _, wr (x1648 + 1), z1826, (hnxb1264 _).symm.trans hf, rfl, hy1806_3, hy1806_0, hy1806_1, hy1806_2, (St.forget hst1832 1)⟩)
          · replace hf := ifFb hc hf
            refine Ops.off rfl rfl ?_
            refine Ops.off rfl rfl ?_
            refine Ops.off rfl rfl ?_
            refine Ops.offU rfl rfl ?_
            refine Ops.offU rfl rfl ?_
            refine Ops.off rfl rfl ?_
            refine Ops.off rfl rfl ?_
            refine Ops.offU rfl rfl ?_
            refine Ops.offU rfl rfl ?_
            refine Ops.offU rfl rfl ?_
            refine Ops.offU rfl rfl ?_
            refine Ops.off rfl rfl ?_
            refine Ops.ex (Ex.pickF rfl rfl) rfl rfl rfl ?_
            refine Ops.ex (Ex.move rfl) rfl rfl rfl ?_
            refine Ops.on rfl ?_
            refine Ops.ex (Ex.move rfl) rfl rfl rfl ?_
            refine Ops.on rfl ?_
            refine Ops.ex (Ex.not rfl) rfl rfl rfl ?_
            refine Ops.on rfl ?_
            refine Ops.ex (Ex.move rfl) rfl rfl rfl ?_
            refine Ops.case 135 rfl (fun hc => ?_) (fun hc => ?_)
            · replace hf := ifFb (bn_T hc) hf
              refine Ops.on rfl ?_
              refine Ops.ex (Ex.move rfl) rfl rfl rfl ?_
              refine Ops.on rfl ?_
              refine Ops.ex (Ex.neqI rfl rfl) rfl rfl rfl ?_
              refine Ops.on rfl ?_
              refine Ops.ex (Ex.move rfl) rfl rfl rfl ?_
              refine Ops.case 138 rfl (fun hc => ?_) (fun hc => ?_)
              · replace hf := ifF (neq_T hc) hf
                refine Ops.off rfl rfl ?_
                refine Ops.off rfl rfl ?_
                refine Ops.off rfl rfl ?_
                refine Ops.on rfl ?_
                refine Ops.ex (Ex.pickT rfl rfl) rfl rfl rfl ?_
                refine Ops.on rfl ?_
                refine Ops.ex (Ex.move rfl) rfl rfl rfl ?_
                refine Ops.off rfl rfl ?_
                refine Ops.off rfl rfl ?_
                refine Ops.off rfl rfl ?_
                refine Ops.off rfl rfl ?_
                refine Ops.off rfl rfl ?_
                refine Ops.on rfl ?_
                refine Ops.ex (Ex.pickT rfl rfl) rfl rfl rfl ?_
                refine Ops.on rfl ?_
                refine Ops.ex (Ex.pickT rfl rfl) rfl rfl rfl ?_
                refine Ops.ex (Ex.pickF rfl rfl) rfl rfl rfl ?_
                refine Ops.nil ?_
                refine Run.condT rfl rfl ?_
                refine Run.seq ?_
                refine Run.region ?_
                refine Ops.ex (Ex.assign rfl) rfl rfl rfl ?_
                refine Ops.nil ?_
                obtain rfl := Option.some.inj hf
                exact Run.retV [vb false] rfl ⟨rfl, trivial⟩ ⟨z1826, rfl, hy1806_0, (St.forget (St.forget hst1832 2) 1)⟩
              · replace hf := ifT (neq_F hc) hf
                refine Ops.on rfl ?_
                refine Ops.ex (Ex.move rfl) rfl rfl rfl ?_
                refine Ops.on rfl ?_
                refine Ops.ex (Ex.move rfl) rfl rfl rfl ?_
                refine Ops.on rfl ?_
                refine Ops.ex (Ex.neqI rfl rfl) rfl rfl rfl ?_
                refine Ops.on rfl ?_
                refine Ops.ex (Ex.pickF rfl rfl) rfl rfl rfl ?_
                refine Ops.on rfl ?_
                refine Ops.ex (Ex.move rfl) rfl rfl rfl ?_
                refine Ops.case 143 rfl (fun hc => ?_) (fun hc => ?_)
                · replace hf := ifF (neq_T hc) hf
                  refine Ops.off rfl rfl ?_
                  refine Ops.off rfl rfl ?_
                  refine Ops.off rfl rfl ?_
                  refine Ops.off rfl rfl ?_
                  refine Ops.off rfl rfl ?_
                  refine Ops.on rfl ?_
                  refine Ops.ex (Ex.pickT rfl rfl) rfl rfl rfl ?_
                  refine Ops.on rfl ?_
                  refine Ops.ex (Ex.pickT rfl rfl) rfl rfl rfl ?_
                  refine Ops.ex (Ex.pickF rfl rfl) rfl rfl rfl ?_
                  refine Ops.nil ?_
                  refine Run.condT rfl rfl ?_
                  refine Run.seq ?_
                  refine Run.region ?_
                  refine Ops.ex (Ex.assign rfl) rfl rfl rfl ?_
                  refine Ops.nil ?_
                  obtain rfl := Option.some.inj hf
                  exact Run.retV [vb false] rfl ⟨rfl, trivial⟩ ⟨z1826, rfl, hy1806_0, (St.forget (St.forget hst1832 2) 1)⟩
                · replace hf := ifT (neq_F hc) hf
                  refine Ops.on rfl ?_
                  refine Ops.loadAgg _ rfl Try.underlying38 rfl sz38 rfl (hst1832.cells (i := 1) rfl 0 2) rfl ?_
                  refine Ops.on rfl ?_
                  refine Ops.ex (Ex.move rfl) rfl rfl rfl ?_
                  refine Ops.on rfl ?_
                  refine Ops.ex (Ex.move rfl) rfl rfl rfl ?_
                  refine Ops.on rfl ?_
                  obtain ⟨y1835, hy1835, hf⟩ := bnd hf
                  refine Ops.call rfl rfl Try.func23 (by kernel_rfl) (by kernel_rfl) rfl (go_law10_Shows.walk (p0 := y1826.1) (p1 := mp1803) (p2 := x1804) (hst := hst1832) (f1 := f1827) (f3 := f1803) (hf := hy1835)) ?_
                  rintro _ w1835 ⟨z1835, rfl, hz1835, hst1835⟩
                  refine ⟨_, rfl, ?_⟩
                  replace f1651 := f1651.mono hz1835; replace f1803 := f1803.mono hz1835; replace f1655 := f1655.mono hz1835; replace f1827 := f1827.mono hz1835; replace f1261 := f1261.mono hz1835
                  replace hy1806_0 := hy1806_0.trans hz1835
                  replace hy1806_1 := hy1806_1.trans hz1835
                  replace hy1806_2 := hy1806_2.trans hz1835
                  replace hy1806_3 := hy1806_3.trans hz1835
                  replace hy1806_4 := hy1806_4.trans hz1835
                  replace hz1806 := hz1806.trans hz1835
                  refine Ops.on rfl ?_
                  refine Ops.ex (Ex.not rfl) rfl rfl rfl ?_
                  refine Ops.on rfl ?_
                  refine Ops.ex (Ex.pickF rfl rfl) rfl rfl rfl ?_
                  refine Ops.on rfl ?_
                  refine Ops.ex (Ex.pickT rfl rfl) rfl rfl rfl ?_
                  refine Ops.ex (Ex.pickF rfl rfl) rfl rfl rfl ?_
                  refine Ops.nil ?_
                  refine Run.cond rfl (fun hc => ?_) (fun hc => ?_)
                  · replace hf := ifFb (bn_T hc) hf
                    refine Run.seq ?_
                    refine Run.region ?_
                    refine Ops.ex (Ex.assign rfl) rfl rfl rfl ?_
                    refine Ops.nil ?_
                    obtain rfl := Option.some.inj hf
                    exact Run.retV [vb false] rfl ⟨rfl, trivial⟩ ⟨z1835, rfl, hy1806_0, (St.forget (St.forget hst1835 2) 1)⟩
                  · replace hf := ifTb (bn_F hc) hf
                    refine Run.skip ?_
                    refine Run.endBlk ?_
                    refine Run.region ?_
                    refine Ops.ex (Ex.add rfl rfl) rfl rfl rfl ?_
                    refine Ops.ex (Ex.move rfl) rfl rfl rfl ?_
                    refine Ops.nil ?_
                    exact Run.sub (by exact subB_spec ⟨rfl, rfl, rfl, trivial⟩) (Run.stop ⟨mb1264', Nat.lt_succ_self _, wr (x1648 + 1), z1835, (hnxb1264 _).symm.trans hf, rfl, hy1806_3, hy1806_0, hy1806_1, hy1806_2, (St.forget hst1835 1)⟩)
            · replace hf := ifTb (bn_F hc) hf
              refine Ops.off rfl rfl ?_
              refine Ops.off rfl rfl ?_
              refine Ops.off rfl rfl ?_
              refine Ops.offU rfl rfl ?_
              refine Ops.offU rfl rfl ?_
              refine Ops.offU rfl rfl ?_
              refine Ops.off rfl rfl ?_
              refine Ops.off rfl rfl ?_
              refine Ops.offU rfl rfl ?_
              refine Ops.offU rfl rfl ?_
              refine Ops.offU rfl rfl ?_
              refine Ops.offU rfl rfl ?_
              refine Ops.offU rfl rfl ?_
              refine Ops.off rfl rfl ?_
              refine Ops.on rfl ?_
              refine Ops.ex (Ex.pickF rfl rfl) rfl rfl rfl ?_
              refine Ops.ex (Ex.pickF rfl rfl) rfl rfl rfl ?_
              refine Ops.nil ?_
              refine Run.condF rfl rfl ?_
              refine Run.skip ?_
              refine Run.endBlk ?_
              refine Run.region ?_
              refine Ops.ex (Ex.add rfl rfl) rfl rfl rfl ?_
              refine Ops.ex (Ex.move rfl) rfl rfl rfl ?_
              refine Ops.nil ?_
              exact Run.sub (by exact subB_spec ⟨rfl, rfl, rfl, trivial⟩) (Run.stop ⟨mb1264', Nat.lt_succ_self _, wr (x1648 + 1), z1826, (hnxb1264 _).symm.trans hf, rfl, hy1806_3, hy1806_0, hy1806_1, hy1806_2, (St.forget hst1832 1)⟩)
      · replace hf := ifF (dec_F hc) hf
        refine Run.exit _ rfl ?_
        refine Run.seq ?_
        refine Run.region ?_
        refine Ops.ex (Ex.assign rfl) rfl rfl rfl ?_
        refine Ops.nil ?_
        obtain rfl := Option.some.inj hf
        exact Run.retV [vb true] rfl ⟨rfl, trivial⟩ ⟨z1647, rfl, hy1649_0, (St.forget hst1649 1)⟩
end
end Go.Proofs.Ytjlhookdigbjhaa.EA
