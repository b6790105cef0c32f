/- View: ViewState, ViewApart. -/
import Derived.Test.YtfomkndngnfneaaDoorV4
namespace Go.Proofs.YtfomkndngnfneaaDoor.V5
open Go Go.RowKit Go.Proofs.YtfomkndngnfneaaDoor.Sx Go.Proofs.YtfomkndngnfneaaDoor.V1 Go.Proofs.YtfomkndngnfneaaDoor.V2 Go.Proofs.YtfomkndngnfneaaDoor.V3 Go.Proofs.YtfomkndngnfneaaDoor.V4
set_option linter.unusedVariables false
set_option linter.unusedSimpArgs false
def go_law20_lines.b1 (i15 : Nat) (a15 : apiPair) : Str → (Str → Option Str) → Option Str :=
  fun s47 nxb15 => (catI s47 [34]).bind fun s55 => (catI s55 a15.Key).bind fun s56 => (catI s56 [34, 32, 61, 32, 34]).bind fun s57 => (catI s57 a15.Value).bind fun s58 => (catI s58 [34, 10]).bind fun s59 => nxb15 s59
def go_law20_lines (p0 : apiState) : Option Str :=
  (go_law20_digits 40 p0.Index).bind fun y7 => (catI [115, 116, 97, 116, 101, 32] y7).bind fun s9 => (catI s9 [32]).bind fun s10 => (go_law20_digits 40 p0.Term).bind fun y11 => (catI s10 y11).bind fun s13 => (catI s13 [10]).bind fun s14 => forL (go_law20_lines.b1) (fun s47 => some s47) 0 p0.Pairs s14
set_option maxRecDepth 100000 in
set_option maxHeartbeats 4000000 in
theorem go_law20_lines.walk {w0 w : World} {X : List Res} {z0 : Zp} {p0 : apiState} {A3 : Option Addr} {c3 : Nat} {A4 : Option Addr} {c4 : Nat} {r : Str} (hst : Ht w0 (frz z0 :: X) w) (f3 : Sl tapiPair z0 A3 c3 p0.Pairs) (f4 : Sl tapiSession z0 A4 c4 p0.Sessions) (hf : go_law20_lines p0 = some r) :
    Calls Tryd.prog 15 #[.agg #[vi p0.Index, vi p0.Term, .slice A3 p0.Pairs.length c3, .slice A4 p0.Sessions.length c4]] w fun e w' => ∃ (z' : Zp), e = .returned (vs r) ∧ Le z0 z' ∧ Ht w0 (frz z' :: X) w' := by
  refine calls_np Tryd.func15 rfl rfl ?_
  have hle0 := Le.refl z0
  unfold go_law20_lines at hf
  refine Run.seq ?_
  refine Run.region ?_
  refine Ops.boxF [vi p0.Index, vi p0.Term, .slice A3 p0.Pairs.length c3, .slice A4 p0.Sessions.length c4] hst rfl rfl rfl (fun g5 w5 hst5 => ?_)
  refine Ops.ex (Ex.assign rfl) rfl rfl rfl ?_
  refine Ops.nil ?_
  refine Run.seq ?_
  refine Run.drawH [([], fun w => ∃ ζ Y, Le z0 ζ ∧ Ht w0 (frz ζ :: (blk g5 [vi p0.Index, vi p0.Term, .slice A3 p0.Pairs.length c3, .slice A4 p0.Sessions.length c4] 47) :: Y) w)] (by kernel_rfl) hst5 (fun w6 hst6 => ?_)
  have hS0 := (⟨_, _, (Le.refl _), (St.up (St.up hst6 1 rfl) 1 rfl)⟩ : (fun w => ∃ ζ Y, Le z0 ζ ∧ Ht w0 (frz ζ :: (blk g5 [vi p0.Index, vi p0.Term, .slice A3 p0.Pairs.length c3, .slice A4 p0.Sessions.length c4] 47) :: Y) w) _)
  refine Any.takeE 0 rfl rfl rfl rfl (by kernel_rfl) (fun _ _ _ _ _ h => h) ((Ex.fieldAddr rfl Tryd.underlying47 rfl sz3).s) ?_
  refine Any.take 0 1 rfl rfl rfl rfl rfl (by kernel_rfl) (fun _ _ _ _ _ h => h) (ExS.load rfl Tryd.underlying3 rfl (fun w hS => by obtain ⟨_, _, _, hs⟩ := hS; exact hs.cell (i := 1) rfl rfl)) hS0 ?_
  refine Any.takeE 5 rfl rfl rfl rfl (by kernel_rfl) (fun _ _ _ _ _ h => h) ((Ex.fieldAddr rfl Tryd.underlying47 rfl sz3).s) ?_
  refine Any.take 0 6 rfl rfl rfl rfl rfl (by kernel_rfl) (fun _ _ _ _ _ h => h) (ExS.load rfl Tryd.underlying3 rfl (fun w hS => by obtain ⟨_, _, _, hs⟩ := hS; exact hs.cell (i := 1) rfl rfl)) hS0 ?_
  obtain ⟨y7, hy7, hf⟩ := bnd hf
  refine Any.one 2 (by kernel_rfl) rfl rfl (One.of_ops rfl ?_)
  refine Ops.call rfl rfl Tryd.func21 (by kernel_rfl) (by kernel_rfl) rfl (go_law20_digits.walk (p0 := p0.Index) (hst := hst6) (hf := hy7)) ?_
  rintro _ w7 ⟨z7, rfl, hz7, hst7⟩
  refine ⟨_, rfl, Ops.stop ?_⟩
  replace f3 := f3.mono hz7; replace f4 := f4.mono hz7
  replace hle0 := hle0.trans hz7
  have hS0 := (⟨_, _, hle0, (St.up (St.up hst7 1 rfl) 1 rfl)⟩ : (fun w => ∃ ζ Y, Le z0 ζ ∧ Ht w0 (frz ζ :: (blk g5 [vi p0.Index, vi p0.Term, .slice A3 p0.Pairs.length c3, .slice A4 p0.Sessions.length c4] 47) :: Y) w) _)
  refine ⟨⟨.inr (fun _ => hS0), trivial⟩, ?_⟩
  obtain ⟨s9, hy9, hf⟩ := bnd hf
  refine Any.takeE 3 rfl rfl rfl rfl (by kernel_rfl) (fun _ _ _ _ _ h => h) ((Ex.addT (s := [115, 116, 97, 116, 101, 32]) hy9 rfl rfl).s) ?_
  obtain ⟨s10, hy10, hf⟩ := bnd hf
  refine Any.takeE 4 rfl rfl rfl rfl (by kernel_rfl) (fun _ _ _ _ _ h => h) ((Ex.addT (t := [32]) hy10 rfl rfl).s) ?_
  obtain ⟨y11, hy11, hf⟩ := bnd hf
  refine Any.one 7 (by kernel_rfl) rfl rfl (One.of_ops rfl ?_)
  refine Ops.call rfl rfl Tryd.func21 (by kernel_rfl) (by kernel_rfl) rfl (go_law20_digits.walk (p0 := p0.Term) (hst := hst7) (hf := hy11)) ?_
  rintro _ w11 ⟨z11, rfl, hz11, hst11⟩
  refine ⟨_, rfl, Ops.stop ?_⟩
  replace f3 := f3.mono hz11; replace f4 := f4.mono hz11
  replace hle0 := hle0.trans hz11
  have hS0 := (⟨_, _, hle0, (St.up (St.up hst11 1 rfl) 1 rfl)⟩ : (fun w => ∃ ζ Y, Le z0 ζ ∧ Ht w0 (frz ζ :: (blk g5 [vi p0.Index, vi p0.Term, .slice A3 p0.Pairs.length c3, .slice A4 p0.Sessions.length c4] 47) :: Y) w) _)
  refine ⟨⟨.inr (fun _ => hS0), trivial⟩, ?_⟩
  obtain ⟨s13, hy13, hf⟩ := bnd hf
  refine Any.takeE 8 rfl rfl rfl rfl (by kernel_rfl) (fun _ _ _ _ _ h => h) ((Ex.addT hy13 rfl rfl).s) ?_
  obtain ⟨s14, hy14, hf⟩ := bnd hf
  refine Any.takeE 9 rfl rfl rfl rfl (by kernel_rfl) (fun _ _ _ _ _ h => h) ((Ex.addT (t := [10]) hy14 rfl rfl).s) ?_
  refine Any.takeE 10 rfl rfl rfl rfl (by kernel_rfl) (fun _ _ _ _ _ h => h) ((Ex.assign rfl).s) ?_
  refine Any.done (by kernel_rfl) ?_
  refine Run.seq ?_
  refine Run.seq ?_
  refine Run.region ?_
  refine Ops.ex (Ex.fieldAddr rfl Tryd.underlying47 rfl sz44) rfl rfl rfl ?_
  refine Ops.load rfl Tryd.underlying44 rfl (hst11.cell (i := 1) rfl rfl) rfl ?_
  refine Ops.ex (Ex.len' rfl rfl rfl Tryd.underlying44) rfl rfl rfl ?_
  refine Ops.ex (Ex.move rfl) rfl rfl rfl ?_
  refine Ops.nil ?_
  refine Run.block ?_
  have hc15 := f3.cap
  have hm16 := Le.refl z11
  refine Run.sub (e' := [(3, vs s14), (17, .slice A3 p0.Pairs.length c3), (18, vi (p0.Pairs.length : Int)), (19, vi ((0 : Nat) : Int))]) (subB_spec ⟨rfl, rfl, rfl, rfl, trivial⟩) ?_
  refine Run.loop (fun mb15 => (fun e' w' => ∃ (i15 : Nat) (s47 : Str) (z46 : Zp), mb15 = p0.Pairs.length - i15 ∧ i15 ≤ p0.Pairs.length ∧ forL (go_law20_lines.b1) (fun s47 => some s47) i15 (p0.Pairs.drop i15) s47 = some r ∧ e' = [(3, vs s47), (17, .slice A3 p0.Pairs.length c3), (18, vi (p0.Pairs.length : Int)), (19, vi (i15 : Int))] ∧ Le z11 z46 ∧ Le z0 z46 ∧ Ht w0 (frz z46 :: X) w')) p0.Pairs.length ⟨0, s14, z11, rfl, Nat.zero_le _, hf, rfl, hm16, hle0, (St.forget hst11 1)⟩ ?_
  rintro _ e' w48 ⟨i15, s47, z46, rfl, hi15, hf, rfl, hz48, hy48_0, hst48⟩
  replace f3 := f3.mono hz48
  refine Run.seq ?_
  refine Run.region ?_
  refine Ops.ex (Ex.lss rfl rfl) rfl rfl rfl ?_
  refine Ops.nil ?_
  refine Run.seq ?_
  refine Run.cond rfl (fun hc => ?_) (fun hc => ?_)
  · have hl15 := lt_of_dec hc
    obtain ⟨a15, nxb15, ha15, hnxb15, hf⟩ := forL_in hf hl15
    unfold go_law20_lines.b1 at hf
    try dsimp only at hf
    refine Run.skip ?_
    refine Run.seq ?_
    refine Run.block ?_
    refine Run.seq ?_
    refine Run.region ?_
    obtain ⟨g52, p52, o52, cs52, hA52, ho52, hr52, f52⟩ := SlH.elem f3.toH (atI_nat ha15)
    obtain rfl := hr52
    refine Ops.ex (Ex.ixA hA52 ho52 (atI_nat ha15) rfl rfl rfl Tryd.underlying44 sz49) rfl rfl rfl ?_
    refine Ops.loadAgg [vs a15.Key, vs a15.Value, vb a15.Gone] rfl Tryd.underlying49 rfl sz49 rfl (cells_of_zc rfl (f52.mono hst48.le)) rfl ?_
    refine Ops.allocF [vs [], vs [], vb false] hst48 zr49 rfl rfl (fun g53 w53 hst53 => ?_)
    refine Ops.store 1 [vs a15.Key, vs a15.Value, vb a15.Gone] hst53 rfl rfl rfl rfl sz49 rfl (by simp [Value.oneCell']) (by simp) (fun w54 hst54 => ?_)
    refine Ops.nil ?_
    refine Run.region ?_
    refine Ops.ex (Ex.move rfl) rfl rfl rfl ?_
    obtain ⟨s55, hy55, hf⟩ := bnd hf
    refine Ops.ex (Ex.addT (t := [34]) hy55 rfl rfl) rfl rfl rfl ?_
    refine Ops.ex (Ex.fieldAddr rfl Tryd.underlying49 rfl sz9) rfl rfl rfl ?_
    refine Ops.load rfl Tryd.underlying9 rfl (hst54.cell (i := 1) rfl rfl) rfl ?_
    obtain ⟨s56, hy56, hf⟩ := bnd hf
    refine Ops.ex (Ex.addT hy56 rfl rfl) rfl rfl rfl ?_
    obtain ⟨s57, hy57, hf⟩ := bnd hf
    refine Ops.ex (Ex.addT (t := [34, 32, 61, 32, 34]) hy57 rfl rfl) rfl rfl rfl ?_
    refine Ops.ex (Ex.fieldAddr rfl Tryd.underlying49 rfl sz9) rfl rfl rfl ?_
    refine Ops.load rfl Tryd.underlying9 rfl (hst54.cell (i := 1) rfl rfl) rfl ?_
    obtain ⟨s58, hy58, hf⟩ := bnd hf
    refine Ops.ex (Ex.addT hy58 rfl rfl) rfl rfl rfl ?_
    obtain ⟨s59, hy59, hf⟩ := bnd hf
    refine Ops.ex (Ex.addT (t := [34, 10]) hy59 rfl rfl) rfl rfl rfl ?_
    refine Ops.ex (Ex.assign rfl) rfl rfl rfl ?_
    refine Ops.nil ?_
    refine Run.endBlk ?_
    refine Run.region ?_
    refine Ops.ex (Ex.add rfl rfl) rfl rfl rfl ?_
    refine Ops.ex (Ex.move rfl) rfl rfl rfl ?_
    refine Ops.nil ?_
    refine Run.re 19 rfl (congrArg vi (wr_succ' hl15 hc15)) ?_
    exact Run.sub (by exact subB_spec ⟨rfl, rfl, rfl, rfl, trivial⟩) (Run.stop ⟨p0.Pairs.length - (i15 + 1), by omega, i15 + 1, s59, z46, rfl, by omega, (hnxb15 _).symm.trans hf, rfl, hz48, hy48_0, (St.forget hst54 1)⟩)
  · replace hf := forL_out hf (nlt_of_dec hc)
    try dsimp only at hf
    refine Run.exit _ rfl ?_
    refine Run.seq ?_
    refine Run.region ?_
    refine Ops.ex (Ex.move rfl) rfl rfl rfl ?_
    refine Ops.ex (Ex.assign rfl) rfl rfl rfl ?_
    refine Ops.nil ?_
    obtain rfl := Option.some.inj hf
    exact Run.retV [vs s47] rfl ⟨rfl, trivial⟩ ⟨z46, rfl, hy48_0, hst48⟩
def go_law20_ViewApart (p0 : List law06Say) (p1 : UInt8) : Option Bool :=
  (go_law20_awake).bind fun y3 => if y3 then ((go_law07_Some p0).bind fun y5 => (apB 40 [] y5.Pairs).bind fun l17 => (apB 40 l17 ([(⟨[122], [], false⟩ : apiPair)])).bind fun l21 => (go_view_State y5).bind fun y25 => (go_view_State (⟨wr (y5.Index + (wr (1 + (p1.toNat : Int)))), y5.Term, y5.Pairs, y5.Sessions⟩ : apiState)).bind fun y27 => if y25 = y27 then (some false) else ((go_view_State y5).bind fun y29 => (go_view_State (⟨y5.Index, y5.Term, l21, y5.Sessions⟩ : apiState)).bind fun y31 => if y29 = y31 then (some false) else ((go_view_State y5).bind fun y35 => (go_view_State y5).bind fun y37 => some (decide (y35 = y37))))) else (some false)
set_option maxRecDepth 100000 in
set_option maxHeartbeats 4000000 in
theorem go_law20_ViewApart.walk {w0 w : World} {X : List Res} {z0 : Zp} {p0 : List law06Say} {A1 : Option Addr} {c1 : Nat} {p1 : UInt8} {r : Bool} (hst : Ht w0 (frz z0 :: X) w) (f1 : Sl tlaw06Say z0 A1 c1 p0) (hT : VM.TB z0) (hf : go_law20_ViewApart p0 p1 = some r) :
    Calls Tryd.prog 6 #[.slice A1 p0.length c1, vu8 p1] w fun e w' => ∃ (z' : Zp), e = .returned (vb r) ∧ Le z0 z' ∧ Ht w0 (frz z' :: X) w' := by
  refine calls_np Tryd.func6 rfl rfl ?_
  have hle0 := Le.refl z0
  unfold go_law20_ViewApart at hf
  refine Run.seq ?_
  refine Run.region ?_
  refine Ops.ex (Ex.assign rfl) rfl rfl rfl ?_
  refine Ops.nil ?_
  refine Run.seq ?_
  refine Run.seq ?_
  refine Run.region ?_
  obtain ⟨y3, hy3, hf⟩ := bnd hf
  refine Ops.call rfl rfl Tryd.func7 (by kernel_rfl) (by kernel_rfl) rfl (go_law20_awake.walk (hst := hst) (hT := hT) (hf := hy3)) ?_
  rintro _ w3 ⟨z3, rfl, hz3, hst3⟩
  refine ⟨_, rfl, ?_⟩
  replace f1 := f1.mono hz3; replace hT := hT.mono hz3
  replace hle0 := hle0.trans hz3
  refine Ops.ex (Ex.not rfl) rfl rfl rfl ?_
  refine Ops.nil ?_
  refine Run.cond rfl (fun hc => ?_) (fun hc => ?_)
  · replace hf := ifFb (bn_T hc) hf
    refine Run.seq ?_
    refine Run.region ?_
    refine Ops.ex (Ex.assign rfl) rfl rfl rfl ?_
    refine Ops.nil ?_
    obtain rfl := Option.some.inj hf
    exact Run.retV [vb false] rfl ⟨rfl, trivial⟩ ⟨z3, rfl, hle0, hst3⟩
  · replace hf := ifTb (bn_F hc) hf
    refine Run.skip ?_
    refine Run.seq ?_
    refine Run.region ?_
    refine Ops.ex (Ex.move rfl) rfl rfl rfl ?_
    obtain ⟨y5, hy5, hf⟩ := bnd hf
    refine Ops.call rfl rfl Tryd.func13 (by kernel_rfl) (by kernel_rfl) rfl (go_law07_Some.walk (p0 := p0) (hst := hst3) (f1 := f1) (hf := hy5)) ?_
    rintro _ w5 ⟨z5, A8, c8, A9, c9, rfl, hz5, f8, f9, hst5⟩
    refine ⟨_, rfl, ?_⟩
    replace f1 := f1.mono hz5; replace hT := hT.mono hz5
    replace hle0 := hle0.trans hz5
    refine Ops.allocF [vi 0, vi 0, .slice none 0 0, .slice none 0 0] hst5 zr47 rfl rfl (fun g10 w10 hst10 => ?_)
    refine Ops.store 1 [vi y5.Index, vi y5.Term, .slice A8 y5.Pairs.length c8, .slice A9 y5.Sessions.length c9] hst10 rfl rfl rfl rfl sz47 rfl (by simp [Value.oneCell']) (by simp) (fun w11 hst11 => ?_)
    refine Ops.nil ?_
    refine Run.seq ?_
    refine Run.region ?_
    refine Ops.loadAgg _ rfl Tryd.underlying47 rfl sz47 rfl (hst11.cells (i := 1) rfl 0 4) rfl ?_
    refine Ops.allocF [vi 0, vi 0, .slice none 0 0, .slice none 0 0] hst11 zr47 rfl rfl (fun g12 w12 hst12 => ?_)
    refine Ops.store 1 [vi y5.Index, vi y5.Term, .slice A8 y5.Pairs.length c8, .slice A9 y5.Sessions.length c9] hst12 rfl rfl rfl rfl sz47 rfl (by simp [Value.oneCell']) (by simp) (fun w13 hst13 => ?_)
    refine Ops.nil ?_
    refine Run.seq ?_
    refine Run.region ?_
    refine Ops.ex (Ex.fieldAddr rfl Tryd.underlying47 rfl sz3) rfl rfl rfl ?_
    refine Ops.load rfl Tryd.underlying3 rfl (hst13.cell (i := 1) rfl rfl) rfl ?_
    refine Ops.ex (Ex.move rfl) rfl rfl rfl ?_
    refine Ops.ex (Ex.cu8 rfl Tryd.underlying5 Tryd.underlying3) rfl rfl rfl ?_
    refine Ops.ex (Ex.add rfl rfl) rfl rfl rfl ?_
    refine Ops.ex (Ex.add rfl rfl) rfl rfl rfl ?_
    refine Ops.ex (Ex.fieldAddr rfl Tryd.underlying47 rfl sz3) rfl rfl rfl ?_
    refine Ops.store 1 [vi (wr (y5.Index + (wr (1 + (p1.toNat : Int)))))] hst13 rfl rfl rfl rfl sz3 rfl (by simp [Value.oneCell']) (by simp) (fun w14 hst14 => ?_)
    refine Ops.nil ?_
    refine Run.seq ?_
    refine Run.region ?_
    refine Ops.loadAgg _ rfl Tryd.underlying47 rfl sz47 rfl (hst14.cells (i := 2) rfl 0 4) rfl ?_
    refine Ops.allocF [vi 0, vi 0, .slice none 0 0, .slice none 0 0] hst14 zr47 rfl rfl (fun g15 w15 hst15 => ?_)
    refine Ops.store 1 [vi y5.Index, vi y5.Term, .slice A8 y5.Pairs.length c8, .slice A9 y5.Sessions.length c9] hst15 rfl rfl rfl rfl sz47 rfl (by simp [Value.oneCell']) (by simp) (fun w16 hst16 => ?_)
    refine Ops.nil ?_
    refine Run.seq ?_
    refine Run.region ?_
    refine Ops.ex (Ex.fieldAddr rfl Tryd.underlying47 rfl sz44) rfl rfl rfl ?_
    refine Ops.load rfl Tryd.underlying44 rfl (hst16.cell (i := 3) rfl rfl) rfl ?_
    have hst18 := hst16.row0 49 3
    obtain ⟨l17, hy17, hf⟩ := bnd hf
    refine Ops.app 1 hst18 rfl (Cs.nil tapiPair z5) rfl (f8.at_ hst18) rfl hy17 rfl rfl rfl rfl Tryd.underlying44 inf49 rfl (by decide) (by decide) rfl (fun A17 c17 d17 w17 f17 hst17 => ?_)
    refine Ops.ex (Ex.build [vs [122], vs [], vb false] rfl Tryd.underlying49 zr49 (pl49 Tryd.underlying49) (by kernel_rfl)) rfl rfl rfl ?_
    refine Ops.sliceF [vs [122], vs [], vb false] hst17 rfl Tryd.underlying44 sz49 zr49 rfl rfl (by kernel_rfl) rfl (by simp [Value.oneCell']) rfl (fun A20 w20 hst20 => ?_)
    have f20 : Cs tapiPair z5 [vs [122], vs [], vb false] [(⟨[122], [], false⟩ : apiPair)] := (Cs.cons (c := [vs [122], vs [], vb false]) rfl (Cs.nil _ _))
    obtain ⟨l21, hy21, hf⟩ := bnd hf
    refine Ops.app 2 hst20 rfl f17 rfl (own_slh f20 rfl (hst20.get (i := 1) rfl)) rfl hy21 rfl rfl rfl rfl Tryd.underlying44 inf49 rfl (by decide) (by decide) rfl (fun A21 c21 d21 w21 f21 hst21 => ?_)
    refine Ops.ex (Ex.fieldAddr rfl Tryd.underlying47 rfl sz44) rfl rfl rfl ?_
    refine Ops.store 3 [.slice A21 l21.length c21] hst21 rfl rfl rfl rfl sz44 rfl (by simp [Value.oneCell']) (by simp) (fun w22 hst22 => ?_)
    refine Ops.nil ?_
    refine Run.seq ?_
    have hm24 := Le.refl z5
    refine Run.drawH [([], fun w => ∃ ζ Y, Le z5 ζ ∧ Ht w0 (frz ζ :: (orow 49 3 (.slice A20 ([(⟨[122], [], false⟩ : apiPair)]).length 1) ([(⟨[122], [], false⟩ : apiPair)]).length ([vs [122], vs [], vb false])) :: (blk g15 [vi y5.Index, vi y5.Term, .slice A21 l21.length c21, .slice A9 y5.Sessions.length c9] 47) :: (blk g12 [vi (wr (y5.Index + (wr (1 + (p1.toNat : Int))))), vi y5.Term, .slice A8 y5.Pairs.length c8, .slice A9 y5.Sessions.length c9] 47) :: (blk g10 [vi y5.Index, vi y5.Term, .slice A8 y5.Pairs.length c8, .slice A9 y5.Sessions.length c9] 47) :: Y) w), ([9, 14, 16], fun w => ∃ ζ Y, Le z5 ζ ∧ Ht w0 (frz ζ :: (orow 49 3 (.slice A21 l21.length c21) l21.length d21) :: Y) w)] (by kernel_rfl) hst22 (fun w23 hst23 => ?_)
    have hS0 := (⟨_, _, (Le.refl _), (St.up (St.up (St.up (St.up (St.up hst23 5 rfl) 5 rfl) 5 rfl) 4 rfl) 4 rfl)⟩ : (fun w => ∃ ζ Y, Le z5 ζ ∧ Ht w0 (frz ζ :: (orow 49 3 (.slice A20 ([(⟨[122], [], false⟩ : apiPair)]).length 1) ([(⟨[122], [], false⟩ : apiPair)]).length ([vs [122], vs [], vb false])) :: (blk g15 [vi y5.Index, vi y5.Term, .slice A21 l21.length c21, .slice A9 y5.Sessions.length c9] 47) :: (blk g12 [vi (wr (y5.Index + (wr (1 + (p1.toNat : Int))))), vi y5.Term, .slice A8 y5.Pairs.length c8, .slice A9 y5.Sessions.length c9] 47) :: (blk g10 [vi y5.Index, vi y5.Term, .slice A8 y5.Pairs.length c8, .slice A9 y5.Sessions.length c9] 47) :: Y) w) _)
    have hS1 := (⟨_, _, (Le.refl _), (St.up (St.up hst23 2 rfl) 1 rfl)⟩ : (fun w => ∃ ζ Y, Le z5 ζ ∧ Ht w0 (frz ζ :: (orow 49 3 (.slice A21 l21.length c21) l21.length d21) :: Y) w) _)
    refine Any.take 0 0 rfl rfl rfl rfl rfl (by kernel_rfl) (fun _ _ _ _ _ h => h) (ExS.loadAgg [vi y5.Index, vi y5.Term, .slice A8 y5.Pairs.length c8, .slice A9 y5.Sessions.length c9] rfl Tryd.underlying47 rfl sz47 rfl (fun w hS => by obtain ⟨_, _, _, hs⟩ := hS; exact hs.cells (i := 4) rfl 0 4)) hS0 ?_
    refine Any.take 0 2 rfl rfl rfl rfl rfl (by kernel_rfl) (fun _ _ _ _ _ h => h) (ExS.loadAgg [vi (wr (y5.Index + (wr (1 + (p1.toNat : Int))))), vi y5.Term, .slice A8 y5.Pairs.length c8, .slice A9 y5.Sessions.length c9] rfl Tryd.underlying47 rfl sz47 rfl (fun w hS => by obtain ⟨_, _, _, hs⟩ := hS; exact hs.cells (i := 3) rfl 0 4)) hS0 ?_
    obtain ⟨y25, hy25, hf⟩ := bnd hf
    refine Any.one 1 (by kernel_rfl) rfl rfl (One.of_ops rfl ?_)
    refine Ops.call rfl rfl Tryd.func14 (by kernel_rfl) (by kernel_rfl) rfl (go_view_State.walk (p0 := y5) (hst := hst23) (f3 := f8) (f4 := f9) (hT := hT) (hf := hy25)) ?_
    rintro _ w25 ⟨z25, rfl, hz25, hst25⟩
    refine ⟨_, rfl, Ops.stop ?_⟩
    replace f1 := f1.mono hz25; replace f8 := f8.mono hz25; replace f9 := f9.mono hz25; replace f20 := f20.mono hz25; replace f21 := f21.mono hz25; replace hT := hT.mono hz25
    replace hle0 := hle0.trans hz25
    replace hm24 := hm24.trans hz25
    have hS0 := (⟨_, _, hm24, (St.up (St.up (St.up (St.up (St.up hst25 5 rfl) 5 rfl) 5 rfl) 4 rfl) 4 rfl)⟩ : (fun w => ∃ ζ Y, Le z5 ζ ∧ Ht w0 (frz ζ :: (orow 49 3 (.slice A20 ([(⟨[122], [], false⟩ : apiPair)]).length 1) ([(⟨[122], [], false⟩ : apiPair)]).length ([vs [122], vs [], vb false])) :: (blk g15 [vi y5.Index, vi y5.Term, .slice A21 l21.length c21, .slice A9 y5.Sessions.length c9] 47) :: (blk g12 [vi (wr (y5.Index + (wr (1 + (p1.toNat : Int))))), vi y5.Term, .slice A8 y5.Pairs.length c8, .slice A9 y5.Sessions.length c9] 47) :: (blk g10 [vi y5.Index, vi y5.Term, .slice A8 y5.Pairs.length c8, .slice A9 y5.Sessions.length c9] 47) :: Y) w) _)
    have hS1 := (⟨_, _, hm24, (St.up (St.up hst25 2 rfl) 1 rfl)⟩ : (fun w => ∃ ζ Y, Le z5 ζ ∧ Ht w0 (frz ζ :: (orow 49 3 (.slice A21 l21.length c21) l21.length d21) :: Y) w) _)
    refine ⟨⟨.inr (fun _ => hS0), .inr (fun _ => hS1), trivial⟩, ?_⟩
    obtain ⟨y27, hy27, hf⟩ := bnd hf
    refine Any.one 3 (by kernel_rfl) rfl rfl (One.of_ops rfl ?_)
    refine Ops.call rfl rfl Tryd.func14 (by kernel_rfl) (by kernel_rfl) rfl (go_view_State.walk (p0 := (⟨wr (y5.Index + (wr (1 + (p1.toNat : Int)))), y5.Term, y5.Pairs, y5.Sessions⟩ : apiState)) (hst := hst25) (f3 := f8) (f4 := f9) (hT := hT) (hf := hy27)) ?_
    rintro _ w27 ⟨z27, rfl, hz27, hst27⟩
    refine ⟨_, rfl, Ops.stop ?_⟩
    replace f1 := f1.mono hz27; replace f8 := f8.mono hz27; replace f9 := f9.mono hz27; replace f20 := f20.mono hz27; replace f21 := f21.mono hz27; replace hT := hT.mono hz27
    replace hle0 := hle0.trans hz27
    replace hm24 := hm24.trans hz27
    have hS0 := (⟨_, _, hm24, (St.up (St.up (St.up (St.up (St.up hst27 5 rfl) 5 rfl) 5 rfl) 4 rfl) 4 rfl)⟩ : (fun w => ∃ ζ Y, Le z5 ζ ∧ Ht w0 (frz ζ :: (orow 49 3 (.slice A20 ([(⟨[122], [], false⟩ : apiPair)]).length 1) ([(⟨[122], [], false⟩ : apiPair)]).length ([vs [122], vs [], vb false])) :: (blk g15 [vi y5.Index, vi y5.Term, .slice A21 l21.length c21, .slice A9 y5.Sessions.length c9] 47) :: (blk g12 [vi (wr (y5.Index + (wr (1 + (p1.toNat : Int))))), vi y5.Term, .slice A8 y5.Pairs.length c8, .slice A9 y5.Sessions.length c9] 47) :: (blk g10 [vi y5.Index, vi y5.Term, .slice A8 y5.Pairs.length c8, .slice A9 y5.Sessions.length c9] 47) :: Y) w) _)
    have hS1 := (⟨_, _, hm24, (St.up (St.up hst27 2 rfl) 1 rfl)⟩ : (fun w => ∃ ζ Y, Le z5 ζ ∧ Ht w0 (frz ζ :: (orow 49 3 (.slice A21 l21.length c21) l21.length d21) :: Y) w) _)
    refine ⟨⟨.inr (fun _ => hS0), .inr (fun _ => hS1), trivial⟩, ?_⟩
    refine Any.takeE 4 rfl rfl rfl rfl (by kernel_rfl) (fun _ _ _ _ _ h => h) ((Ex.neqT rfl rfl).s) ?_
    refine Any.takeE 5 rfl rfl rfl rfl (by kernel_rfl) (fun _ _ _ _ _ h => h) ((Ex.move rfl).s) ?_
    refine Any.case 33 rfl (fun hc => ?_) (fun hc => ?_)
    · replace hf := ifF (neq_T hc) hf
      refine Any.take 0 6 rfl rfl rfl rfl rfl (by kernel_rfl) (fun _ _ _ _ _ h => h) (ExS.g (ExS.loadAgg [vi y5.Index, vi y5.Term, .slice A8 y5.Pairs.length c8, .slice A9 y5.Sessions.length c9] rfl Tryd.underlying47 rfl sz47 rfl (fun w hS => by obtain ⟨_, _, _, hs⟩ := hS; exact hs.cells (i := 4) rfl 0 4))) hS0 ?_
      refine Any.take 0 8 rfl rfl rfl rfl rfl (by kernel_rfl) (fun _ _ _ _ _ h => h) (ExS.g (ExS.loadAgg [vi y5.Index, vi y5.Term, .slice A21 l21.length c21, .slice A9 y5.Sessions.length c9] rfl Tryd.underlying47 rfl sz47 rfl (fun w hS => by obtain ⟨_, _, _, hs⟩ := hS; exact hs.cells (i := 2) rfl 0 4))) hS0 ?_
      obtain ⟨y29, hy29, hf⟩ := bnd hf
      refine Any.one 7 (by kernel_rfl) rfl rfl (One.g <| One.of_ops rfl ?_)
      refine Ops.call rfl rfl Tryd.func14 (by kernel_rfl) (by kernel_rfl) rfl (go_view_State.walk (p0 := y5) (hst := hst27) (f3 := f8) (f4 := f9) (hT := hT) (hf := hy29)) ?_
      rintro _ w29 ⟨z29, rfl, hz29, hst29⟩
      refine ⟨_, rfl, Ops.stop ?_⟩
      replace f1 := f1.mono hz29; replace f8 := f8.mono hz29; replace f9 := f9.mono hz29; replace f20 := f20.mono hz29; replace f21 := f21.mono hz29; replace hT := hT.mono hz29
      replace hle0 := hle0.trans hz29
      replace hm24 := hm24.trans hz29
      have hS0 := (⟨_, _, hm24, (St.up (St.up (St.up (St.up (St.up hst29 5 rfl) 5 rfl) 5 rfl) 4 rfl) 4 rfl)⟩ : (fun w => ∃ ζ Y, Le z5 ζ ∧ Ht w0 (frz ζ :: (orow 49 3 (.slice A20 ([(⟨[122], [], false⟩ : apiPair)]).length 1) ([(⟨[122], [], false⟩ : apiPair)]).length ([vs [122], vs [], vb false])) :: (blk g15 [vi y5.Index, vi y5.Term, .slice A21 l21.length c21, .slice A9 y5.Sessions.length c9] 47) :: (blk g12 [vi (wr (y5.Index + (wr (1 + (p1.toNat : Int))))), vi y5.Term, .slice A8 y5.Pairs.length c8, .slice A9 y5.Sessions.length c9] 47) :: (blk g10 [vi y5.Index, vi y5.Term, .slice A8 y5.Pairs.length c8, .slice A9 y5.Sessions.length c9] 47) :: Y) w) _)
      have hS1 := (⟨_, _, hm24, (St.up (St.up hst29 2 rfl) 1 rfl)⟩ : (fun w => ∃ ζ Y, Le z5 ζ ∧ Ht w0 (frz ζ :: (orow 49 3 (.slice A21 l21.length c21) l21.length d21) :: Y) w) _)
      refine ⟨⟨.inr (fun _ => hS0), .inr (fun _ => hS1), trivial⟩, ?_⟩
      obtain ⟨z32, hz32, f32, hst32, hu32⟩ := St.lend (τ := tapiPair) (xs := l21) (St.up (St.up (St.up (St.up (St.up (St.up hst29 5 rfl) 5 rfl) 5 rfl) 4 rfl) 5 rfl) 5 rfl) f21 rfl
      obtain ⟨y31, hy31, hf⟩ := bnd hf
      refine Any.one 9 (by kernel_rfl) rfl rfl (One.g <| One.of_ops rfl ?_)
      refine Ops.call rfl rfl Tryd.func14 (by kernel_rfl) (by kernel_rfl) rfl (go_view_State.walk (p0 := (⟨y5.Index, y5.Term, l21, y5.Sessions⟩ : apiState)) (hst := hst32) (f3 := f32) (f4 := (f9.mono hz32)) (hT := (hT.mono hz32)) (hf := hy31)) ?_
      rintro _ w31 ⟨z31, rfl, hz31, hst31⟩
      obtain ⟨z34, hz34, hst34⟩ := hu32 _ _ _ hz31 hst31
      refine ⟨_, rfl, Ops.stop ?_⟩
      replace f1 := f1.mono hz34; replace f8 := f8.mono hz34; replace f9 := f9.mono hz34; replace f21 := f21.mono hz34; replace f20 := f20.mono hz34; replace hT := hT.mono hz34
      replace hle0 := hle0.trans hz34
      replace hm24 := hm24.trans hz34
      have hS0 := (⟨_, _, hm24, (St.up (St.up (St.up (St.up (St.up hst34 5 rfl) 5 rfl) 5 rfl) 5 rfl) 4 rfl)⟩ : (fun w => ∃ ζ Y, Le z5 ζ ∧ Ht w0 (frz ζ :: (orow 49 3 (.slice A20 ([(⟨[122], [], false⟩ : apiPair)]).length 1) ([(⟨[122], [], false⟩ : apiPair)]).length ([vs [122], vs [], vb false])) :: (blk g15 [vi y5.Index, vi y5.Term, .slice A21 l21.length c21, .slice A9 y5.Sessions.length c9] 47) :: (blk g12 [vi (wr (y5.Index + (wr (1 + (p1.toNat : Int))))), vi y5.Term, .slice A8 y5.Pairs.length c8, .slice A9 y5.Sessions.length c9] 47) :: (blk g10 [vi y5.Index, vi y5.Term, .slice A8 y5.Pairs.length c8, .slice A9 y5.Sessions.length c9] 47) :: Y) w) _)
      refine ⟨⟨.inr (fun _ => hS0), .inl (by decide), trivial⟩, ?_⟩
      refine Any.takeE 10 rfl rfl rfl rfl (by kernel_rfl) (fun _ _ _ _ _ h => h) (ExS.g ((Ex.neqT rfl rfl).s)) ?_
      refine Any.takeE 11 rfl rfl rfl rfl (by kernel_rfl) (fun _ _ _ _ _ h => h) ((Ex.pickT rfl rfl).s) ?_
      refine Any.takeE 12 rfl rfl rfl rfl (by kernel_rfl) (fun _ _ _ _ _ h => h) ((Ex.move rfl).s) ?_
      refine Any.case 40 rfl (fun hc => ?_) (fun hc => ?_)
      · replace hf := ifF (neq_T hc) hf
        refine Any.take 0 13 rfl rfl rfl rfl rfl (by kernel_rfl) (fun _ _ _ _ _ h => h) (ExS.g (ExS.loadAgg [vi y5.Index, vi y5.Term, .slice A8 y5.Pairs.length c8, .slice A9 y5.Sessions.length c9] rfl Tryd.underlying47 rfl sz47 rfl (fun w hS => by obtain ⟨_, _, _, hs⟩ := hS; exact hs.cells (i := 4) rfl 0 4))) hS0 ?_
        refine Any.take 0 15 rfl rfl rfl rfl rfl (by kernel_rfl) (fun _ _ _ _ _ h => h) (ExS.g (ExS.loadAgg [vi y5.Index, vi y5.Term, .slice A8 y5.Pairs.length c8, .slice A9 y5.Sessions.length c9] rfl Tryd.underlying47 rfl sz47 rfl (fun w hS => by obtain ⟨_, _, _, hs⟩ := hS; exact hs.cells (i := 4) rfl 0 4))) hS0 ?_
        obtain ⟨y35, hy35, hf⟩ := bnd hf
        refine Any.one 14 (by kernel_rfl) rfl rfl (One.g <| One.of_ops rfl ?_)
        refine Ops.call rfl rfl Tryd.func14 (by kernel_rfl) (by kernel_rfl) rfl (go_view_State.walk (p0 := y5) (hst := hst34) (f3 := f8) (f4 := f9) (hT := hT) (hf := hy35)) ?_
        rintro _ w35 ⟨z35, rfl, hz35, hst35⟩
        refine ⟨_, rfl, Ops.stop ?_⟩
        replace f1 := f1.mono hz35; replace f8 := f8.mono hz35; replace f9 := f9.mono hz35; replace f21 := f21.mono hz35; replace f20 := f20.mono hz35; replace hT := hT.mono hz35
        replace hle0 := hle0.trans hz35
        replace hm24 := hm24.trans hz35
        have hS0 := (⟨_, _, hm24, (St.up (St.up (St.up (St.up (St.up hst35 5 rfl) 5 rfl) 5 rfl) 5 rfl) 4 rfl)⟩ : (fun w => ∃ ζ Y, Le z5 ζ ∧ Ht w0 (frz ζ :: (orow 49 3 (.slice A20 ([(⟨[122], [], false⟩ : apiPair)]).length 1) ([(⟨[122], [], false⟩ : apiPair)]).length ([vs [122], vs [], vb false])) :: (blk g15 [vi y5.Index, vi y5.Term, .slice A21 l21.length c21, .slice A9 y5.Sessions.length c9] 47) :: (blk g12 [vi (wr (y5.Index + (wr (1 + (p1.toNat : Int))))), vi y5.Term, .slice A8 y5.Pairs.length c8, .slice A9 y5.Sessions.length c9] 47) :: (blk g10 [vi y5.Index, vi y5.Term, .slice A8 y5.Pairs.length c8, .slice A9 y5.Sessions.length c9] 47) :: Y) w) _)
        refine ⟨⟨.inr (fun _ => hS0), .inl (by decide), trivial⟩, ?_⟩
        obtain ⟨y37, hy37, hf⟩ := bnd hf
        refine Any.one 16 (by kernel_rfl) rfl rfl (One.g <| One.of_ops rfl ?_)
        refine Ops.call rfl rfl Tryd.func14 (by kernel_rfl) (by kernel_rfl) rfl (go_view_State.walk (p0 := y5) (hst := hst35) (f3 := f8) (f4 := f9) (hT := hT) (hf := hy37)) ?_
        rintro _ w37 ⟨z37, rfl, hz37, hst37⟩
        refine ⟨_, rfl, Ops.stop ?_⟩
        replace f1 := f1.mono hz37; replace f8 := f8.mono hz37; replace f9 := f9.mono hz37; replace f21 := f21.mono hz37; replace f20 := f20.mono hz37; replace hT := hT.mono hz37
        replace hle0 := hle0.trans hz37
        replace hm24 := hm24.trans hz37
        have hS0 := (⟨_, _, hm24, (St.up (St.up (St.up (St.up (St.up hst37 5 rfl) 5 rfl) 5 rfl) 5 rfl) 4 rfl)⟩ : (fun w => ∃ ζ Y, Le z5 ζ ∧ Ht w0 (frz ζ :: (orow 49 3 (.slice A20 ([(⟨[122], [], false⟩ : apiPair)]).length 1) ([(⟨[122], [], false⟩ : apiPair)]).length ([vs [122], vs [], vb false])) :: (blk g15 [vi y5.Index, vi y5.Term, .slice A21 l21.length c21, .slice A9 y5.Sessions.length c9] 47) :: (blk g12 [vi (wr (y5.Index + (wr (1 + (p1.toNat : Int))))), vi y5.Term, .slice A8 y5.Pairs.length c8, .slice A9 y5.Sessions.length c9] 47) :: (blk g10 [vi y5.Index, vi y5.Term, .slice A8 y5.Pairs.length c8, .slice A9 y5.Sessions.length c9] 47) :: Y) w) _)
        refine ⟨⟨.inr (fun _ => hS0), .inl (by decide), trivial⟩, ?_⟩
        refine Any.takeE 17 rfl rfl rfl rfl (by kernel_rfl) (fun _ _ _ _ _ h => h) (ExS.g ((Ex.eqlT rfl rfl).s)) ?_
        refine Any.takeE 18 rfl rfl rfl rfl (by kernel_rfl) (fun _ _ _ _ _ h => h) ((Ex.pickT rfl rfl).s) ?_
        refine Any.takeE 19 rfl rfl rfl rfl (by kernel_rfl) (fun _ _ _ _ _ h => h) ((Ex.assign rfl).s) ?_
        refine Any.done (by kernel_rfl) ?_
        obtain rfl := Option.some.inj hf
        exact Run.retV [vb (decide (y35 = y37))] rfl ⟨rfl, trivial⟩ ⟨z37, rfl, hle0, (St.forget (St.forget (St.forget (St.forget (St.forget hst37 5) 4) 3) 2) 1)⟩
      · replace hf := ifT (neq_F hc) hf
        refine Any.pass 13 rfl rfl rfl rfl (by kernel_rfl) (fun _ _ _ _ _ h => h) ?_
        refine Any.pass 14 rfl rfl rfl rfl (by kernel_rfl) (fun _ _ _ _ _ h => h) ?_
        refine Any.pass 15 rfl rfl rfl rfl (by kernel_rfl) (fun _ _ _ _ _ h => h) ?_
        refine Any.pass 16 rfl rfl rfl rfl (by kernel_rfl) (fun _ _ _ _ _ h => h) ?_
        refine Any.pass 17 rfl rfl rfl rfl (by kernel_rfl) (fun _ _ _ _ _ h => h) ?_
        refine Any.takeE 18 rfl rfl rfl rfl (by kernel_rfl) (fun _ _ _ _ _ h => h) ((Ex.pickF rfl rfl).s) ?_
        refine Any.takeE 19 rfl rfl rfl rfl (by kernel_rfl) (fun _ _ _ _ _ h => h) ((Ex.assign rfl).s) ?_
        refine Any.done (by kernel_rfl) ?_
        obtain rfl := Option.some.inj hf
        exact Run.retV [vb false] rfl ⟨rfl, trivial⟩ ⟨z34, rfl, hle0, (St.forget (St.forget (St.forget (St.forget (St.forget hst34 5) 4) 3) 2) 1)⟩
    · replace hf := ifT (neq_F hc) hf
      refine Any.pass 6 rfl rfl rfl rfl (by kernel_rfl) (fun _ _ _ _ _ h => h) ?_
      refine Any.pass 7 rfl rfl rfl rfl (by kernel_rfl) (fun _ _ _ _ _ h => h) ?_
      refine Any.pass 8 rfl rfl rfl rfl (by kernel_rfl) (fun _ _ _ _ _ h => h) ?_
      refine Any.pass 9 rfl rfl rfl rfl (by kernel_rfl) (fun _ _ _ _ _ h => h) ?_
      refine Any.pass 10 rfl rfl rfl rfl (by kernel_rfl) (fun _ _ _ _ _ h => h) ?_
      refine Any.takeE 11 rfl rfl rfl rfl (by kernel_rfl) (fun _ _ _ _ _ h => h) ((Ex.pickF rfl rfl).s) ?_
      refine Any.takeE 12 rfl rfl rfl rfl (by kernel_rfl) (fun _ _ _ _ _ h => h) ((Ex.move rfl).s) ?_
      refine Any.pass 13 rfl rfl rfl rfl (by kernel_rfl) (fun _ _ _ _ _ h => h) ?_
      refine Any.pass 14 rfl rfl rfl rfl (by kernel_rfl) (fun _ _ _ _ _ h => h) ?_
      refine Any.pass 15 rfl rfl rfl rfl (by kernel_rfl) (fun _ _ _ _ _ h => h) ?_
      refine Any.pass 16 rfl rfl rfl rfl (by kernel_rfl) (fun _ _ _ _ _ h => h) ?_
      refine Any.pass 17 rfl rfl rfl rfl (by kernel_rfl) (fun _ _ _ _ _ h => h) ?_
      refine Any.takeE 18 rfl rfl rfl rfl (by kernel_rfl) (fun _ _ _ _ _ h => h) ((Ex.pickF rfl rfl).s) ?_
      refine Any.takeE 19 rfl rfl rfl rfl (by kernel_rfl) (fun _ _ _ _ _ h => h) ((Ex.assign rfl).s) ?_
      refine Any.done (by kernel_rfl) ?_
      obtain rfl := Option.some.inj hf
      exact Run.retV [vb false] rfl ⟨rfl, trivial⟩ ⟨z27, rfl, hle0, (St.forget (St.forget (St.forget (St.forget (St.forget hst27 5) 4) 3) 2) 1)⟩
end Go.Proofs.YtfomkndngnfneaaDoor.V5
