/- View: ViewState. -/
import Derived.Test.YtfomkndngnfneaaDoorV5
namespace Go.Proofs.YtfomkndngnfneaaDoor.V6
open Go Go.RowKit Go.Proofs.YtfomkndngnfneaaDoor.Sx Go.Proofs.YtfomkndngnfneaaDoor.V1 Go.Proofs.YtfomkndngnfneaaDoor.V2 Go.Proofs.YtfomkndngnfneaaDoor.V3 Go.Proofs.YtfomkndngnfneaaDoor.V4 Go.Proofs.YtfomkndngnfneaaDoor.V5
set_option linter.unusedVariables false
set_option linter.unusedSimpArgs false
theorem zr4 : (Tryd.prog.info? 4).map (·.zero) = some (some (.bool false)) := by kernel_rfl
theorem sz4 : (Tryd.prog.info? 4).map (·.size) = some 1 := by kernel_rfl
theorem zr3 : (Tryd.prog.info? 3).map (·.zero) = some (some (.int .i64 0)) := by kernel_rfl
def go_law20_ViewState.z1 (p2 : UInt8) (y317 : apiState) : Str → Int → Option (Bool × (Int × Nat)) :=
  fun a342_0 x381 => if (y317.Pairs.length : Int) ≤ x381 then (some (false, (x381, 1))) else ((atI y317.Pairs x381).bind fun y386 => (catI [34] y386.Key).bind fun s391 => (catI s391 [34, 32, 61, 32, 34]).bind fun s392 => (catI s392 y386.Value).bind fun s397 => (catI s397 [34, 10]).bind fun s398 => if a342_0 = s398 then (if ((p2 % 40).toNat : Int) < wr (x381 + 1) then (some (false, (wr (x381 + 1), 2))) else (some (true, (wr (x381 + 1), 0)))) else (some (false, (x381, 1))))
def go_law20_ViewState.b2 (p1 : apiState) (p2 : UInt8) (l63 : List apiPair) (y111 : apiState) : Int → (Int → Option Bool) → Option Bool :=
  fun x315 nxb117 => if x315 < ([y111, (⟨p1.Index, p1.Term, l63, p1.Sessions⟩ : apiState)].length : Int) then ((atI [y111, (⟨p1.Index, p1.Term, l63, p1.Sessions⟩ : apiState)] x315).bind fun y317 => (go_view_State y317).bind fun y327 => (go_law20_lines y317).bind fun y329 => if y327 = y329 then ((go_view_Pairs y317).bind fun y335 => (go_view_Pairs_c1 (yw (go_law20_ViewState.z1 p2 y317)) (0, 0) y335).bind fun (x381, yj342) => if yj342 = 0 then (if x381 = min (y317.Pairs.length : Int) (wr (((p2 % 40).toNat : Int) + 1)) then (nxb117 (wr (x315 + 1))) else (some false)) else (if yj342 = 1 then (some false) else (if yj342 = 2 then (if x381 = min (y317.Pairs.length : Int) (wr (((p2 % 40).toNat : Int) + 1)) then (nxb117 (wr (x315 + 1))) else (some false)) else (none)))) else (some false)) else (some true)
def go_law20_ViewState.j1 (p0 : List law06Say) (p1 : apiState) (p2 : UInt8) (l63 : List apiPair) : Option Bool :=
  (go_law07_Some p0).bind fun y111 => loopF (go_law20_ViewState.b2 p1 p2 l63 y111) fuel 0
def go_law20_ViewState.b1 (p0 : List law06Say) (p1 : apiState) (p2 : UInt8) (i64 : Nat) (a64 : apiPair) : Unit → (Unit → Option Bool) → Option Bool :=
  fun _ nxb64 => (go_law20_plain a64.Key).bind fun y102 => if y102 then ((go_law20_plain a64.Value).bind fun y105 => if y105 then (nxb64 ()) else (go_law20_ViewState.j1 p0 p1 p2 [])) else (go_law20_ViewState.j1 p0 p1 p2 [])
def go_law20_ViewState (p0 : List law06Say) (p1 : apiState) (p2 : UInt8) : Option Bool :=
  (go_law20_awake).bind fun y10 => if y10 then ((cutI p1.Pairs 0 (min (p1.Pairs.length : Int) 30)).bind fun l13 => forL (go_law20_ViewState.b1 p0 p1 p2) (fun _ => go_law20_ViewState.j1 p0 p1 p2 l13) 0 l13 ()) else (some false)
set_option maxRecDepth 100000 in
set_option maxHeartbeats 4000000 in
theorem go_law20_ViewState.walk {w0 w : World} {X : List Res} {z0 : Zp} {p0 : List law06Say} {A1 : Option Addr} {c1 : Nat} {p1 : apiState} {A4 : Option Addr} {c4 : Nat} {A5 : Option Addr} {c5 : Nat} {p2 : UInt8} {r : Bool} (hst : Ht w0 (frz z0 :: X) w) (f1 : Sl tlaw06Say z0 A1 c1 p0) (f4 : Sl tapiPair z0 A4 c4 p1.Pairs) (f5 : Sl tapiSession z0 A5 c5 p1.Sessions) (hT : VM.TB z0) (hf : go_law20_ViewState p0 p1 p2 = some r) :
    Calls Tryd.prog 5 #[.slice A1 p0.length c1, .agg #[vi p1.Index, vi p1.Term, .slice A4 p1.Pairs.length c4, .slice A5 p1.Sessions.length c5], vu8 p2] w fun e w' => ∃ (z' : Zp), e = .returned (vb r) ∧ Le z0 z' ∧ Ht w0 (frz z' :: X) w' := by
  refine calls_np Tryd.func5 rfl rfl ?_
  have hle0 := Le.refl z0
  unfold go_law20_ViewState at hf
  refine Run.seq ?_
  refine Run.region ?_
  refine Ops.boxF [vi p1.Index, vi p1.Term, .slice A4 p1.Pairs.length c4, .slice A5 p1.Sessions.length c5] hst rfl rfl rfl (fun g7 w7 hst7 => ?_)
  refine Ops.boxF [vu8 p2] hst7 rfl rfl rfl (fun g8 w8 hst8 => ?_)
  refine Ops.allocF [vb false] hst8 zr4 rfl rfl (fun g9 w9 hst9 => ?_)
  refine Ops.nil ?_
  refine Run.seq ?_
  refine Run.seq ?_
  refine Run.region ?_
  obtain ⟨y10, hy10, hf⟩ := bnd hf
  refine Ops.call rfl rfl Tryd.func7 (by kernel_rfl) (by kernel_rfl) rfl (go_law20_awake.walk (hst := hst9) (hT := hT) (hf := hy10)) ?_
  rintro _ w10 ⟨z10, rfl, hz10, hst10⟩
  refine ⟨_, rfl, ?_⟩
  replace f1 := f1.mono hz10; replace f4 := f4.mono hz10; replace f5 := f5.mono hz10; replace hT := hT.mono hz10
  replace hle0 := hle0.trans hz10
  refine Ops.ex (Ex.not rfl) rfl rfl rfl ?_
  refine Ops.nil ?_
  refine Run.cond rfl (fun hc => ?_) (fun hc => ?_)
  · replace hf := ifFb (bn_T hc) hf
    refine Run.seq ?_
    refine Run.region ?_
    refine Ops.store 1 [vb false] hst10 rfl rfl rfl rfl sz4 rfl (by simp [Value.oneCell']) (by simp) (fun w12 hst12 => ?_)
    refine Ops.nil ?_
    obtain rfl := Option.some.inj hf
    exact Run.retV [vb false] rfl ⟨⟨_, rfl, run_load1 Tryd.underlying4 rfl (hst12.cell (i := 1) rfl rfl)⟩, trivial⟩ ⟨z10, rfl, hle0, (St.forget (St.forget (St.forget hst12 3) 2) 1)⟩
  · replace hf := ifTb (bn_F hc) hf
    refine Run.skip ?_
    refine Run.seq ?_
    refine Run.region ?_
    refine Ops.ex (Ex.fieldAddr rfl Tryd.underlying47 rfl sz44) rfl rfl rfl ?_
    refine Ops.load rfl Tryd.underlying44 rfl (hst10.cell (i := 3) rfl rfl) rfl ?_
    refine Ops.ex (Ex.fieldAddr rfl Tryd.underlying47 rfl sz44) rfl rfl rfl ?_
    refine Ops.load rfl Tryd.underlying44 rfl (hst10.cell (i := 3) rfl rfl) rfl ?_
    refine Ops.ex (Ex.len' rfl rfl rfl Tryd.underlying44) rfl rfl rfl ?_
    refine Ops.ex (Ex.min2 rfl rfl rfl) rfl rfl rfl ?_
    obtain ⟨l13, hy13, hf⟩ := bnd hf
    obtain ⟨A13, c13, hA13, hB13, f13⟩ := SlH.sub f4.toH hy13
    replace f13 := f13.toS
    refine Ops.ex (Ex.subA hA13 hB13 hy13 rfl rfl Tryd.underlying44 sz49 rfl rfl) rfl rfl rfl ?_
    refine Ops.ex (Ex.fieldAddr rfl Tryd.underlying47 rfl sz44) rfl rfl rfl ?_
    refine Ops.store 3 [.slice A13 l13.length c13] hst10 rfl rfl rfl rfl sz44 rfl (by simp [Value.oneCell']) (by simp) (fun w14 hst14 => ?_)
    refine Ops.nil ?_
    refine Run.seq ?_
    refine Run.seq ?_
    refine Run.region ?_
    refine Ops.ex (Ex.fieldAddr rfl Tryd.underlying47 rfl sz44) rfl rfl rfl ?_
    refine Ops.load rfl Tryd.underlying44 rfl (hst14.cell (i := 3) rfl rfl) rfl ?_
    refine Ops.ex (Ex.len' rfl rfl rfl Tryd.underlying44) rfl rfl rfl ?_
    refine Ops.ex (Ex.move rfl) rfl rfl rfl ?_
    refine Ops.nil ?_
    have hm61 := Le.refl z10
    apply Run.jn (fun e' w' => ∃ (l63 : List apiPair) (A63 : Option Addr) (c63 : Nat) (z62 : Zp), go_law20_ViewState.j1 p0 p1 p2 l63 = some r ∧ e' = [(0, .slice A1 p0.length c1), (4, .pointer (some ⟨g7, 0, none⟩)), (5, .pointer (some ⟨g8, 0, none⟩)), (6, .pointer (some ⟨g9, 0, none⟩))] ∧ Le z10 z62 ∧ Le z0 z62 ∧ Sl tapiPair z62 A63 c63 l63 ∧ Ht w0 (frz z62 :: (blk g9 [vb false] 4) :: (blk g8 [vu8 p2] 5) :: (blk g7 [vi p1.Index, vi p1.Term, .slice A63 l63.length c63, .slice A5 p1.Sessions.length c5] 47) :: X) w')
    · intro hj15
      refine Run.block ?_
      have hc64 := f13.cap
      refine Run.sub (e' := [(0, .slice A1 p0.length c1), (4, .pointer (some ⟨g7, 0, none⟩)), (5, .pointer (some ⟨g8, 0, none⟩)), (6, .pointer (some ⟨g9, 0, none⟩)), (24, .slice A13 l13.length c13), (25, vi (l13.length : Int)), (26, vi ((0 : Nat) : Int))]) (subB_spec ⟨rfl, rfl, rfl, rfl, rfl, rfl, rfl, trivial⟩) ?_
      refine Run.loop (fun mb64 => (fun e' w' => ∃ (i64 : Nat) (z94 : Zp), mb64 = l13.length - i64 ∧ i64 ≤ l13.length ∧ forL (go_law20_ViewState.b1 p0 p1 p2) (fun _ => go_law20_ViewState.j1 p0 p1 p2 l13) i64 (l13.drop i64) () = some r ∧ e' = [(0, .slice A1 p0.length c1), (4, .pointer (some ⟨g7, 0, none⟩)), (5, .pointer (some ⟨g8, 0, none⟩)), (6, .pointer (some ⟨g9, 0, none⟩)), (24, .slice A13 l13.length c13), (25, vi (l13.length : Int)), (26, vi (i64 : Int))] ∧ Le z10 z94 ∧ Le z0 z94 ∧ Ht w0 (frz z94 :: (blk g9 [vb false] 4) :: (blk g8 [vu8 p2] 5) :: (blk g7 [vi p1.Index, vi p1.Term, .slice A13 l13.length c13, .slice A5 p1.Sessions.length c5] 47) :: X) w')) l13.length ⟨0, z10, rfl, Nat.zero_le _, hf, rfl, hm61, hle0, hst14⟩ ?_
      rintro _ e' w95 ⟨i64, z94, rfl, hi64, hf, rfl, hz95, hy95_0, hst95⟩
      replace f1 := f1.mono hz95; replace f13 := f13.mono hz95; replace f5 := f5.mono hz95; replace hT := hT.mono hz95
      refine Run.seq ?_
      refine Run.region ?_
      refine Ops.ex (Ex.lss rfl rfl) rfl rfl rfl ?_
      refine Ops.nil ?_
      refine Run.seq ?_
      refine Run.cond rfl (fun hc => ?_) (fun hc => ?_)
      · have hl64 := lt_of_dec hc
        obtain ⟨a64, nxb64, ha64, hnxb64, hf⟩ := forL_in hf hl64
        unfold go_law20_ViewState.b1 at hf
        try dsimp only at hf
        refine Run.skip ?_
        refine Run.seq ?_
        refine Run.block ?_
        refine Run.seq ?_
        refine Run.region ?_
        obtain ⟨g99, p99, o99, cs99, hA99, ho99, hr99, f99⟩ := SlH.elem f13.toH (atI_nat ha64)
        obtain rfl := hr99
        refine Ops.ex (Ex.ixA hA99 ho99 (atI_nat ha64) rfl rfl rfl Tryd.underlying44 sz49) rfl rfl rfl ?_
        refine Ops.loadAgg [vs a64.Key, vs a64.Value, vb a64.Gone] rfl Tryd.underlying49 rfl sz49 rfl (cells_of_zc rfl (f99.mono hst95.le)) rfl ?_
        refine Ops.allocF [vs [], vs [], vb false] hst95 zr49 rfl rfl (fun g100 w100 hst100 => ?_)
        refine Ops.store 1 [vs a64.Key, vs a64.Value, vb a64.Gone] hst100 rfl rfl rfl rfl sz49 rfl (by simp [Value.oneCell']) (by simp) (fun w101 hst101 => ?_)
        refine Ops.nil ?_
        refine Run.seq ?_
        refine Run.region ?_
        refine Ops.ex (Ex.fieldAddr rfl Tryd.underlying49 rfl sz9) rfl rfl rfl ?_
        refine Ops.load rfl Tryd.underlying9 rfl (hst101.cell (i := 1) rfl rfl) rfl ?_
        obtain ⟨y102, hy102, hf⟩ := bnd hf
        refine Ops.call rfl rfl Tryd.func12 (by kernel_rfl) (by kernel_rfl) rfl (go_law20_plain.walk (p0 := a64.Key) (hst := hst101) (hf := hy102)) ?_
        rintro _ w102 ⟨z102, rfl, hz102, hst102⟩
        refine ⟨_, rfl, ?_⟩
        replace f1 := f1.mono hz102; replace f13 := f13.mono hz102; replace f99 := f99.mono hz102; replace f5 := f5.mono hz102; replace hT := hT.mono hz102
        replace hy95_0 := hy95_0.trans hz102
        replace hz95 := hz95.trans hz102
        refine Ops.ex (Ex.not rfl) rfl rfl rfl ?_
        refine Ops.ex (Ex.move rfl) rfl rfl rfl ?_
        refine Ops.case 34 rfl (fun hc => ?_) (fun hc => ?_)
        · replace hf := ifFb (bn_T hc) hf
          refine Ops.off rfl rfl ?_
          refine Ops.off rfl rfl ?_
          refine Ops.off rfl rfl ?_
          refine Ops.off rfl rfl ?_
          refine Ops.ex (Ex.pickT rfl rfl) rfl rfl rfl ?_
          refine Ops.nil ?_
          refine Run.condT rfl rfl ?_
          refine Run.seq ?_
          refine Run.region ?_
          refine Ops.ex (Ex.fieldAddr rfl Tryd.underlying47 rfl sz44) rfl rfl rfl ?_
          refine Ops.store 4 [.slice none 0 0] hst102 rfl rfl rfl rfl sz44 rfl (by simp [Value.oneCell']) (by simp) (fun w104 hst104 => ?_)
          refine Ops.nil ?_
          refine Run.exit _ rfl ?_
          exact Run.sub (by exact subB_spec ⟨rfl, rfl, rfl, rfl, trivial⟩) (hj15 _ _ ⟨[], none, 0, z102, hf, rfl, hz95, hy95_0, (Sl.nil _ _), (St.forget hst104 1)⟩)
        · replace hf := ifTb (bn_F hc) hf
          refine Ops.on rfl ?_
          refine Ops.ex (Ex.fieldAddr rfl Tryd.underlying49 rfl sz9) rfl rfl rfl ?_
          refine Ops.on rfl ?_
          refine Ops.load rfl Tryd.underlying9 rfl (hst102.cell (i := 1) rfl rfl) rfl ?_
          refine Ops.on rfl ?_
          obtain ⟨y105, hy105, hf⟩ := bnd hf
          refine Ops.call rfl rfl Tryd.func12 (by kernel_rfl) (by kernel_rfl) rfl (go_law20_plain.walk (p0 := a64.Value) (hst := hst102) (hf := hy105)) ?_
          rintro _ w105 ⟨z105, rfl, hz105, hst105⟩
          refine ⟨_, rfl, ?_⟩
          replace f1 := f1.mono hz105; replace f13 := f13.mono hz105; replace f99 := f99.mono hz105; replace f5 := f5.mono hz105; replace hT := hT.mono hz105
          replace hy95_0 := hy95_0.trans hz105
          replace hz95 := hz95.trans hz105
          refine Ops.on rfl ?_
          refine Ops.ex (Ex.not rfl) rfl rfl rfl ?_
          refine Ops.ex (Ex.pickF rfl rfl) rfl rfl rfl ?_
          refine Ops.nil ?_
          refine Run.cond rfl (fun hc => ?_) (fun hc => ?_)
          · replace hf := ifFb (bn_T hc) hf
            refine Run.seq ?_
            refine Run.region ?_
            refine Ops.ex (Ex.fieldAddr rfl Tryd.underlying47 rfl sz44) rfl rfl rfl ?_
            refine Ops.store 4 [.slice none 0 0] hst105 rfl rfl rfl rfl sz44 rfl (by simp [Value.oneCell']) (by simp) (fun w107 hst107 => ?_)
            refine Ops.nil ?_
            refine Run.exit _ rfl ?_
            exact Run.sub (by exact subB_spec ⟨rfl, rfl, rfl, rfl, trivial⟩) (hj15 _ _ ⟨[], none, 0, z105, hf, rfl, hz95, hy95_0, (Sl.nil _ _), (St.forget hst107 1)⟩)
          · replace hf := ifTb (bn_F hc) hf
            refine Run.skip ?_
            refine Run.endBlk ?_
            refine Run.region ?_
            refine Ops.ex (Ex.add rfl rfl) rfl rfl rfl ?_
            refine Ops.ex (Ex.move rfl) rfl rfl rfl ?_
            refine Ops.nil ?_
            refine Run.re 26 rfl (congrArg vi (wr_succ' hl64 hc64)) ?_
            exact Run.sub (by exact subB_spec ⟨rfl, rfl, rfl, rfl, rfl, rfl, rfl, trivial⟩) (Run.stop ⟨l13.length - (i64 + 1), by omega, i64 + 1, z105, rfl, by omega, (hnxb64 _).symm.trans hf, rfl, hz95, hy95_0, (St.forget hst105 1)⟩)
      · replace hf := forL_out hf (nlt_of_dec hc)
        try dsimp only at hf
        refine Run.exit _ rfl ?_
        exact Run.sub (by exact subB_spec ⟨rfl, rfl, rfl, rfl, trivial⟩) (hj15 _ _ ⟨l13, A13, c13, z94, hf, rfl, hz95, hy95_0, f13, hst95⟩)
    · rintro e' w108 ⟨l63, A63, c63, z62, hf, rfl, hz108, hy108_0, f63, hst108⟩
      replace f1 := f1.mono hz108; replace f5 := f5.mono hz108; replace hT := hT.mono hz108
      unfold go_law20_ViewState.j1 at hf
      refine Run.seq ?_
      refine Run.seq ?_
      have hm110 := Le.refl z62
      refine Run.drawH [([], fun w => ∃ ζ Y, Le z62 ζ ∧ Ht w0 (frz ζ :: (blk g9 [vb false] 4) :: (blk g8 [vu8 p2] 5) :: (blk g7 [vi p1.Index, vi p1.Term, .slice A63 l63.length c63, .slice A5 p1.Sessions.length c5] 47) :: Y) w)] (by kernel_rfl) hst108 (fun w109 hst109 => ?_)
      have hS0 := (⟨_, _, (Le.refl _), (St.up (St.up (St.up (St.up hst109 3 rfl) 3 rfl) 3 rfl) 3 rfl)⟩ : (fun w => ∃ ζ Y, Le z62 ζ ∧ Ht w0 (frz ζ :: (blk g9 [vb false] 4) :: (blk g8 [vu8 p2] 5) :: (blk g7 [vi p1.Index, vi p1.Term, .slice A63 l63.length c63, .slice A5 p1.Sessions.length c5] 47) :: Y) w) _)
      refine Any.takeE 0 rfl rfl rfl rfl (by kernel_rfl) (fun _ _ _ _ _ h => h) ((Ex.move rfl).s) ?_
      refine Any.take 0 2 rfl rfl rfl rfl rfl (by kernel_rfl) (fun _ _ _ _ _ h => h) (ExS.loadAgg [vi p1.Index, vi p1.Term, .slice A63 l63.length c63, .slice A5 p1.Sessions.length c5] rfl Tryd.underlying47 rfl sz47 rfl (fun w hS => by obtain ⟨_, _, _, hs⟩ := hS; exact hs.cells (i := 3) rfl 0 4)) hS0 ?_
      refine Any.takeE 5 rfl rfl rfl rfl (by kernel_rfl) (fun _ _ _ _ _ h => h) ((Ex.move rfl).s) ?_
      obtain ⟨y111, hy111, hf⟩ := bnd hf
      refine Any.one 1 (by kernel_rfl) rfl rfl (One.of_ops rfl ?_)
      refine Ops.call rfl rfl Tryd.func13 (by kernel_rfl) (by kernel_rfl) rfl (go_law07_Some.walk (p0 := p0) (hst := hst109) (f1 := f1) (hf := hy111)) ?_
      rintro _ w111 ⟨z111, A114, c114, A115, c115, rfl, hz111, f114, f115, hst111⟩
      refine ⟨_, rfl, Ops.stop ?_⟩
      replace f1 := f1.mono hz111; replace f63 := f63.mono hz111; replace f5 := f5.mono hz111; replace hT := hT.mono hz111
      replace hy108_0 := hy108_0.trans hz111
      replace hz108 := hz108.trans hz111
      replace hm110 := hm110.trans hz111
      have hS0 := (⟨_, _, hm110, (St.up (St.up (St.up (St.up hst111 3 rfl) 3 rfl) 3 rfl) 3 rfl)⟩ : (fun w => ∃ ζ Y, Le z62 ζ ∧ Ht w0 (frz ζ :: (blk g9 [vb false] 4) :: (blk g8 [vu8 p2] 5) :: (blk g7 [vi p1.Index, vi p1.Term, .slice A63 l63.length c63, .slice A5 p1.Sessions.length c5] 47) :: Y) w) _)
      refine ⟨⟨.inr (fun _ => hS0), trivial⟩, ?_⟩
      refine Any.one 3 (by kernel_rfl) rfl rfl (One.of_ops rfl ?_)
      refine Ops.sliceF [vi y111.Index, vi y111.Term, .slice A114 y111.Pairs.length c114, .slice A115 y111.Sessions.length c115, vi p1.Index, vi p1.Term, .slice A63 l63.length c63, .slice A5 p1.Sessions.length c5] hst111 rfl Tryd.underlying52 sz47 zr47 rfl rfl (by kernel_rfl) rfl (by simp [Value.oneCell']) rfl (fun A116 w116 hst116 => Ops.stop ?_)
      have f116 : Cs tapiState z111 [vi y111.Index, vi y111.Term, .slice A114 y111.Pairs.length c114, .slice A115 y111.Sessions.length c115, vi p1.Index, vi p1.Term, .slice A63 l63.length c63, .slice A5 p1.Sessions.length c5] [y111, (⟨p1.Index, p1.Term, l63, p1.Sessions⟩ : apiState)] := (Cs.cons (c := [vi y111.Index, vi y111.Term, .slice A114 y111.Pairs.length c114, .slice A115 y111.Sessions.length c115]) ⟨_, _, _, _, rfl, f114, f115⟩ (Cs.cons (c := [vi p1.Index, vi p1.Term, .slice A63 l63.length c63, .slice A5 p1.Sessions.length c5]) ⟨_, _, _, _, rfl, f63, f5⟩ (Cs.nil _ _)))
      have hS0 := (⟨_, _, hm110, (St.up (St.up (St.up (St.up hst116 4 rfl) 4 rfl) 4 rfl) 3 rfl)⟩ : (fun w => ∃ ζ Y, Le z62 ζ ∧ Ht w0 (frz ζ :: (blk g9 [vb false] 4) :: (blk g8 [vu8 p2] 5) :: (blk g7 [vi p1.Index, vi p1.Term, .slice A63 l63.length c63, .slice A5 p1.Sessions.length c5] 47) :: Y) w) _)
      refine ⟨⟨.inr (fun _ => hS0), trivial⟩, ?_⟩
      refine Any.takeE 4 rfl rfl rfl rfl (by kernel_rfl) (fun _ _ _ _ _ h => h) ((Ex.len' rfl rfl rfl Tryd.underlying52).s) ?_
      refine Any.done (by kernel_rfl) ?_
      refine Run.block ?_
      have hm118 := Le.refl z111
      refine Run.sub (e' := [(5, .pointer (some ⟨g8, 0, none⟩)), (6, .pointer (some ⟨g9, 0, none⟩)), (45, .slice A116 [y111, (⟨p1.Index, p1.Term, l63, p1.Sessions⟩ : apiState)].length 2), (46, vi ([y111, (⟨p1.Index, p1.Term, l63, p1.Sessions⟩ : apiState)].length : Int)), (47, vi 0)]) (subB_spec ⟨rfl, rfl, rfl, rfl, rfl, trivial⟩) ?_
      refine Run.loopD (fun Dsb117 mb117 => (fun e' w' => ∃ (x315 : Int) (z314 : Zp), loopF (go_law20_ViewState.b2 p1 p2 l63 y111) mb117 x315 = some r ∧ e' = [(5, .pointer (some ⟨g8, 0, none⟩)), (6, .pointer (some ⟨g9, 0, none⟩)), (45, .slice A116 [y111, (⟨p1.Index, p1.Term, l63, p1.Sessions⟩ : apiState)].length 2), (46, vi ([y111, (⟨p1.Index, p1.Term, l63, p1.Sessions⟩ : apiState)].length : Int)), (47, vi x315)] ∧ Le z111 z314 ∧ Le z0 z314 ∧ Le z10 z314 ∧ Le z62 z314 ∧ Ht w0 (frz z314 :: (orow 47 4 (.slice A116 [y111, (⟨p1.Index, p1.Term, l63, p1.Sessions⟩ : apiState)].length 2) [y111, (⟨p1.Index, p1.Term, l63, p1.Sessions⟩ : apiState)].length [vi y111.Index, vi y111.Term, .slice A114 y111.Pairs.length c114, .slice A115 y111.Sessions.length c115, vi p1.Index, vi p1.Term, .slice A63 l63.length c63, .slice A5 p1.Sessions.length c5]) :: (blk g9 [vb false] 4) :: (blk g8 [vu8 p2] 5) :: (mkD Dsb117 ++ X)) w')) fuel ⟨0, z111, hf, rfl, hm118, hy108_0, hz108, hm110, (St.forget hst116 4)⟩ ?_
      rintro Dsb117 mb117 e' w316 ⟨x315, z314, hf, rfl, hz316, hy316_0, hy316_1, hy316_2, hst316⟩
      replace f116 := f116.mono hz316; replace hT := hT.mono hz316
      obtain ⟨mb117', nxb117, rfl, hnxb117, hf⟩ := loopF_in hf
      unfold go_law20_ViewState.b2 at hf
      try dsimp only at hf
      refine Run.seq ?_
      refine Run.region ?_
      refine Ops.ex (Ex.lss rfl rfl) rfl rfl rfl ?_
      refine Ops.nil ?_
      refine Run.seq ?_
      refine Run.cond rfl (fun hc => ?_) (fun hc => ?_)
      · replace hf := ifT (dec_T hc) hf
        refine Run.skip ?_
        refine Run.seq ?_
        refine Run.block ?_
        refine Run.seq ?_
        refine Run.region ?_
        obtain ⟨y317, hy317, hf⟩ := bnd hf
        obtain ⟨g322, p322, o322, cs322, hA322, ho322, hr322, f322⟩ := own_elem f116 rfl (hst316.get (i := 1) rfl) hy317
        obtain ⟨A320, c320, A321, c321, rfl, f320, f321⟩ := hr322
        refine Ops.ex (Ex.ixA hA322 ho322 hy317 rfl rfl rfl Tryd.underlying52 sz47) rfl rfl rfl ?_
        refine Ops.loadAgg [vi y317.Index, vi y317.Term, .slice A320 y317.Pairs.length c320, .slice A321 y317.Sessions.length c321] rfl Tryd.underlying47 rfl sz47 rfl (cells_of_zc rfl (f322 _ (hst316.get (i := 1) rfl))) rfl ?_
        refine Ops.allocF [vi 0, vi 0, .slice none 0 0, .slice none 0 0] hst316 zr47 rfl rfl (fun g323 w323 hst323 => ?_)
        refine Ops.store 1 [vi y317.Index, vi y317.Term, .slice A320 y317.Pairs.length c320, .slice A321 y317.Sessions.length c321] hst323 rfl rfl rfl rfl sz47 rfl (by simp [Value.oneCell']) (by simp) (fun w324 hst324 => ?_)
        refine Ops.nil ?_
        refine Run.seq ?_
        refine Run.seq ?_
        have hm326 := Le.refl z314
        refine Run.drawH [([], fun w => ∃ ζ Y, Le z314 ζ ∧ Ht w0 (frz ζ :: (blk g323 [vi y317.Index, vi y317.Term, .slice A320 y317.Pairs.length c320, .slice A321 y317.Sessions.length c321] 47) :: (orow 47 4 (.slice A116 [y111, (⟨p1.Index, p1.Term, l63, p1.Sessions⟩ : apiState)].length 2) [y111, (⟨p1.Index, p1.Term, l63, p1.Sessions⟩ : apiState)].length [vi y111.Index, vi y111.Term, .slice A114 y111.Pairs.length c114, .slice A115 y111.Sessions.length c115, vi p1.Index, vi p1.Term, .slice A63 l63.length c63, .slice A5 p1.Sessions.length c5]) :: (blk g9 [vb false] 4) :: (blk g8 [vu8 p2] 5) :: Y) w)] (by kernel_rfl) hst324 (fun w325 hst325 => ?_)
        have hS0 := (⟨_, _, (Le.refl _), (St.up (St.up (St.up (St.up (St.up hst325 4 rfl) 4 rfl) 4 rfl) 4 rfl) 4 rfl)⟩ : (fun w => ∃ ζ Y, Le z314 ζ ∧ Ht w0 (frz ζ :: (blk g323 [vi y317.Index, vi y317.Term, .slice A320 y317.Pairs.length c320, .slice A321 y317.Sessions.length c321] 47) :: (orow 47 4 (.slice A116 [y111, (⟨p1.Index, p1.Term, l63, p1.Sessions⟩ : apiState)].length 2) [y111, (⟨p1.Index, p1.Term, l63, p1.Sessions⟩ : apiState)].length [vi y111.Index, vi y111.Term, .slice A114 y111.Pairs.length c114, .slice A115 y111.Sessions.length c115, vi p1.Index, vi p1.Term, .slice A63 l63.length c63, .slice A5 p1.Sessions.length c5]) :: (blk g9 [vb false] 4) :: (blk g8 [vu8 p2] 5) :: Y) w) _)
        refine Any.take 0 0 rfl rfl rfl rfl rfl (by kernel_rfl) (fun _ _ _ _ _ h => h) (ExS.loadAgg [vi y317.Index, vi y317.Term, .slice A320 y317.Pairs.length c320, .slice A321 y317.Sessions.length c321] rfl Tryd.underlying47 rfl sz47 rfl (fun w hS => by obtain ⟨_, _, _, hs⟩ := hS; exact hs.cells (i := 1) rfl 0 4)) hS0 ?_
        refine Any.take 0 2 rfl rfl rfl rfl rfl (by kernel_rfl) (fun _ _ _ _ _ h => h) (ExS.loadAgg [vi y317.Index, vi y317.Term, .slice A320 y317.Pairs.length c320, .slice A321 y317.Sessions.length c321] rfl Tryd.underlying47 rfl sz47 rfl (fun w hS => by obtain ⟨_, _, _, hs⟩ := hS; exact hs.cells (i := 1) rfl 0 4)) hS0 ?_
        obtain ⟨y327, hy327, hf⟩ := bnd hf
        refine Any.one 1 (by kernel_rfl) rfl rfl (One.of_ops rfl ?_)
        refine Ops.call rfl rfl Tryd.func14 (by kernel_rfl) (by kernel_rfl) rfl (go_view_State.walk (p0 := y317) (hst := hst325) (f3 := f320) (f4 := f321) (hT := hT) (hf := hy327)) ?_
        rintro _ w327 ⟨z327, rfl, hz327, hst327⟩
        refine ⟨_, rfl, Ops.stop ?_⟩
        replace f320 := f320.mono hz327; replace f321 := f321.mono hz327; replace f116 := f116.mono hz327; replace hT := hT.mono hz327
        replace hy316_0 := hy316_0.trans hz327
        replace hy316_1 := hy316_1.trans hz327
        replace hy316_2 := hy316_2.trans hz327
        replace hz316 := hz316.trans hz327
        replace hm326 := hm326.trans hz327
        have hS0 := (⟨_, _, hm326, (St.up (St.up (St.up (St.up (St.up hst327 4 rfl) 4 rfl) 4 rfl) 4 rfl) 4 rfl)⟩ : (fun w => ∃ ζ Y, Le z314 ζ ∧ Ht w0 (frz ζ :: (blk g323 [vi y317.Index, vi y317.Term, .slice A320 y317.Pairs.length c320, .slice A321 y317.Sessions.length c321] 47) :: (orow 47 4 (.slice A116 [y111, (⟨p1.Index, p1.Term, l63, p1.Sessions⟩ : apiState)].length 2) [y111, (⟨p1.Index, p1.Term, l63, p1.Sessions⟩ : apiState)].length [vi y111.Index, vi y111.Term, .slice A114 y111.Pairs.length c114, .slice A115 y111.Sessions.length c115, vi p1.Index, vi p1.Term, .slice A63 l63.length c63, .slice A5 p1.Sessions.length c5]) :: (blk g9 [vb false] 4) :: (blk g8 [vu8 p2] 5) :: Y) w) _)
        refine ⟨⟨.inr (fun _ => hS0), trivial⟩, ?_⟩
        obtain ⟨y329, hy329, hf⟩ := bnd hf
        refine Any.one 3 (by kernel_rfl) rfl rfl (One.of_ops rfl ?_)
        refine Ops.call rfl rfl Tryd.func15 (by kernel_rfl) (by kernel_rfl) rfl (go_law20_lines.walk (p0 := y317) (hst := hst327) (f3 := f320) (f4 := f321) (hf := hy329)) ?_
        rintro _ w329 ⟨z329, rfl, hz329, hst329⟩
        refine ⟨_, rfl, Ops.stop ?_⟩
        replace f320 := f320.mono hz329; replace f321 := f321.mono hz329; replace f116 := f116.mono hz329; replace hT := hT.mono hz329
        replace hy316_0 := hy316_0.trans hz329
        replace hy316_1 := hy316_1.trans hz329
        replace hy316_2 := hy316_2.trans hz329
        replace hz316 := hz316.trans hz329
        replace hm326 := hm326.trans hz329
        have hS0 := (⟨_, _, hm326, (St.up (St.up (St.up (St.up (St.up hst329 4 rfl) 4 rfl) 4 rfl) 4 rfl) 4 rfl)⟩ : (fun w => ∃ ζ Y, Le z314 ζ ∧ Ht w0 (frz ζ :: (blk g323 [vi y317.Index, vi y317.Term, .slice A320 y317.Pairs.length c320, .slice A321 y317.Sessions.length c321] 47) :: (orow 47 4 (.slice A116 [y111, (⟨p1.Index, p1.Term, l63, p1.Sessions⟩ : apiState)].length 2) [y111, (⟨p1.Index, p1.Term, l63, p1.Sessions⟩ : apiState)].length [vi y111.Index, vi y111.Term, .slice A114 y111.Pairs.length c114, .slice A115 y111.Sessions.length c115, vi p1.Index, vi p1.Term, .slice A63 l63.length c63, .slice A5 p1.Sessions.length c5]) :: (blk g9 [vb false] 4) :: (blk g8 [vu8 p2] 5) :: Y) w) _)
        refine ⟨⟨.inr (fun _ => hS0), trivial⟩, ?_⟩
        refine Any.takeE 4 rfl rfl rfl rfl (by kernel_rfl) (fun _ _ _ _ _ h => h) ((Ex.neqT rfl rfl).s) ?_
        refine Any.done (by kernel_rfl) ?_
        refine Run.cond rfl (fun hc => ?_) (fun hc => ?_)
        · replace hf := ifF (neq_T hc) hf
          refine Run.seq ?_
          refine Run.region ?_
          refine Ops.store 3 [vb false] hst329 rfl rfl rfl rfl sz4 rfl (by simp [Value.oneCell']) (by simp) (fun w331 hst331 => ?_)
          refine Ops.nil ?_
          obtain ⟨wD332, hD332, hst332⟩ := St.shutAll (A := [frz z329, blk g323 [vi y317.Index, vi y317.Term, .slice A320 y317.Pairs.length c320, .slice A321 y317.Sessions.length c321] 47, orow 47 4 (.slice A116 [y111, (⟨p1.Index, p1.Term, l63, p1.Sessions⟩ : apiState)].length 2) [y111, (⟨p1.Index, p1.Term, l63, p1.Sessions⟩ : apiState)].length [vi y111.Index, vi y111.Term, .slice A114 y111.Pairs.length c114, .slice A115 y111.Sessions.length c115, vi p1.Index, vi p1.Term, .slice A63 l63.length c63, .slice A5 p1.Sessions.length c5], blk g9 [vb false] 4, blk g8 [vu8 p2] 5]) Dsb117 hst331
          have hst332 : Ht w0 (frz z329 :: (blk g323 [vi y317.Index, vi y317.Term, .slice A320 y317.Pairs.length c320, .slice A321 y317.Sessions.length c321] 47) :: (orow 47 4 (.slice A116 [y111, (⟨p1.Index, p1.Term, l63, p1.Sessions⟩ : apiState)].length 2) [y111, (⟨p1.Index, p1.Term, l63, p1.Sessions⟩ : apiState)].length [vi y111.Index, vi y111.Term, .slice A114 y111.Pairs.length c114, .slice A115 y111.Sessions.length c115, vi p1.Index, vi p1.Term, .slice A63 l63.length c63, .slice A5 p1.Sessions.length c5]) :: (blk g9 [vb false] 4) :: (blk g8 [vu8 p2] 5) :: X) _ := hst332
          obtain rfl := Option.some.inj hf
          exact Run.retW [vb false] hD332 ⟨⟨_, rfl, run_load1 Tryd.underlying4 rfl (hst332.cell (i := 3) rfl rfl)⟩, trivial⟩ ⟨z329, rfl, hy316_0, (St.forget (St.forget (St.forget (St.forget hst332 4) 3) 2) 1)⟩
        · replace hf := ifT (neq_F hc) hf
          refine Run.skip ?_
          refine Run.seq ?_
          refine Run.region ?_
          refine Ops.allocF [vi 0] hst329 zr3 rfl rfl (fun g333 w333 hst333 => ?_)
          refine Ops.store 1 [vi 0] hst333 rfl rfl rfl rfl sz3 rfl (by simp [Value.oneCell']) (by simp) (fun w334 hst334 => ?_)
          refine Ops.nil ?_
          refine Run.seq ?_
          refine Run.seq ?_
          refine Run.region ?_
          refine Ops.loadAgg _ rfl Tryd.underlying47 rfl sz47 rfl (hst334.cells (i := 2) rfl 0 4) rfl ?_
          obtain ⟨y335, hy335, hf⟩ := bnd hf
          refine Ops.call rfl rfl Tryd.func16 (by kernel_rfl) (by kernel_rfl) rfl (go_view_Pairs.walk (p0 := y317) (hst := hst334) (f3 := f320) (f4 := f321) (hf := hy335)) ?_
          rintro _ w335 ⟨z335, g336, A339, c339, A340, c340, rfl, hz335, f339, f340, hst335⟩
          refine ⟨_, rfl, ?_⟩
          replace f320 := f320.mono hz335; replace f321 := f321.mono hz335; replace f116 := f116.mono hz335; replace hT := hT.mono hz335
          replace hy316_0 := hy316_0.trans hz335
          replace hy316_1 := hy316_1.trans hz335
          replace hy316_2 := hy316_2.trans hz335
          replace hz316 := hz316.trans hz335
          replace hm326 := hm326.trans hz335
          refine Ops.nil ?_
          refine Run.block ?_
          have hm341 := Le.refl z335
          obtain ⟨⟨ys342, yj342⟩, hy342, hf⟩ := bnd hf
          try dsimp only at hf
          refine Run.rangeZ (fun (s_ : Int) (z380 : Zp) (Hs_ : List Res) => ∃ (x381 : Int), x381 = s_ ∧ Le z335 z380 ∧ Le z0 z380 ∧ Le z10 z380 ∧ Le z62 z380 ∧ Le z111 z380 ∧ Le z314 z380 ∧ Hs_ = [blk g333 [vi x381] 3, blk g323 [vi y317.Index, vi y317.Term, .slice A320 y317.Pairs.length c320, .slice A321 y317.Sessions.length c321] 47, orow 47 4 (.slice A116 [y111, (⟨p1.Index, p1.Term, l63, p1.Sessions⟩ : apiState)].length 2) [y111, (⟨p1.Index, p1.Term, l63, p1.Sessions⟩ : apiState)].length [vi y111.Index, vi y111.Term, .slice A114 y111.Pairs.length c114, .slice A115 y111.Sessions.length c115, vi p1.Index, vi p1.Term, .slice A63 l63.length c63, .slice A5 p1.Sessions.length c5], blk g9 [vb false] 4, blk g8 [vu8 p2] 5]) (fun z a us_ => us_ = [vs a]) (go_law20_ViewState.z1 p2 y317) (fun | 1 => Code.ret | 2 => Code.exit 4 | _ => Code.skip) rfl rfl Tryd.func26 (by kernel_rfl) (by kernel_rfl) ?_ rfl (s0 := 0) (s1 := ys342) (j1 := yj342) (Hs := [blk g333 [vi 0] 3, blk g323 [vi y317.Index, vi y317.Term, .slice A320 y317.Pairs.length c320, .slice A321 y317.Sessions.length c321] 47, orow 47 4 (.slice A116 [y111, (⟨p1.Index, p1.Term, l63, p1.Sessions⟩ : apiState)].length 2) [y111, (⟨p1.Index, p1.Term, l63, p1.Sessions⟩ : apiState)].length [vi y111.Index, vi y111.Term, .slice A114 y111.Pairs.length c114, .slice A115 y111.Sessions.length c115, vi p1.Index, vi p1.Term, .slice A63 l63.length c63, .slice A5 p1.Sessions.length c5], blk g9 [vb false] 4, blk g8 [vu8 p2] 5]) (X := (blk g336 [vi y335.Index, vi y335.Term, .slice A339 y335.Pairs.length c339, .slice A340 y335.Sessions.length c340] 47 :: (mkD Dsb117 ++ X))) ⟨0, rfl, hm341, hy316_0, hy316_1, hy316_2, hz316, hm326, rfl⟩ (St.up (St.up (St.up (St.up (St.up (St.up (St.up hst335 1 rfl) 6 rfl) 6 rfl) 6 rfl) 6 rfl) 6 rfl) 6 rfl) ?_ ?_ ?_ ?_
          · rintro _ _ _ rfl
            rfl
          · intro l_ J_ W_ Hs_ hY_ hJ_ hst_
            refine (go_view_Pairs_c1.walk (yield := yw (go_law20_ViewState.z1 p2 y317)) (s0 := (0, 0)) (q0 := y335) (hst := St.swp (M := Hs_) (Hs := [blk g336 [vi y335.Index, vi y335.Term, .slice A339 y335.Pairs.length c339, .slice A340 y335.Sessions.length c340] 47]) (X := (mkD Dsb117 ++ X)) hst_) (Hs0 := Hs_) (X := (mkD Dsb117 ++ X)) (hY := hY_) (hJ0 := hJ_) (f3 := f339) (f4 := f340) (hT := hT) (hf := hy342)).mono ?_
            rintro _ W'_ ⟨z'_, Hs382, rfl, hl_, hJ382, hst'_⟩
            exact ⟨⟨_, rfl⟩, z'_, _, hl_, hJ382, St.swp (M := [blk g336 [vi y335.Index, vi y335.Term, .slice A339 y335.Pairs.length c339, .slice A340 y335.Sessions.length c340] 47]) (Hs := Hs382) hst'_⟩
          · rintro s_ ar342 vs_ z1_ zr342 Hs_ Y_ l_ W_ rr_ ⟨x381, rfl, hm342_0, hm342_1, hm342_2, hm342_3, hm342_4, hm342_5, rfl⟩ hz12 hA_ hf hst342
            obtain ⟨a342_0, rfl⟩ : ∃ q, q = ar342 := ⟨_, rfl⟩
            obtain rfl := hA_
            replace f320 := f320.mono (hm342_0.trans hz12); replace f321 := f321.mono (hm342_0.trans hz12); replace f116 := f116.mono (hm342_0.trans hz12); replace hT := hT.mono (hm342_0.trans hz12)
            replace hm342_0 := hm342_0.trans hz12; replace hm342_1 := hm342_1.trans hz12; replace hm342_2 := hm342_2.trans hz12; replace hm342_3 := hm342_3.trans hz12; replace hm342_4 := hm342_4.trans hz12; replace hm342_5 := hm342_5.trans hz12
            unfold go_law20_ViewState.z1 at hf
            try dsimp only at hf
            have hzz342 := Le.refl zr342
            replace hst342 : Ht w0 (frz zr342 :: (blk g333 [vi x381] 3) :: (blk g323 [vi y317.Index, vi y317.Term, .slice A320 y317.Pairs.length c320, .slice A321 y317.Sessions.length c321] 47) :: (orow 47 4 (.slice A116 [y111, (⟨p1.Index, p1.Term, l63, p1.Sessions⟩ : apiState)].length 2) [y111, (⟨p1.Index, p1.Term, l63, p1.Sessions⟩ : apiState)].length [vi y111.Index, vi y111.Term, .slice A114 y111.Pairs.length c114, .slice A115 y111.Sessions.length c115, vi p1.Index, vi p1.Term, .slice A63 l63.length c63, .slice A5 p1.Sessions.length c5]) :: (blk g9 [vb false] 4) :: (blk g8 [vu8 p2] 5) :: Y_) _ := hst342
            refine Run.region ?_
            refine Ops.ex (Ex.assign rfl) rfl rfl rfl ?_
            refine Ops.nil ?_
            refine Run.stop ⟨[blk g333 [vi x381] 3, blk g323 [vi y317.Index, vi y317.Term, .slice A320 y317.Pairs.length c320, .slice A321 y317.Sessions.length c321] 47, orow 47 4 (.slice A116 [y111, (⟨p1.Index, p1.Term, l63, p1.Sessions⟩ : apiState)].length 2) [y111, (⟨p1.Index, p1.Term, l63, p1.Sessions⟩ : apiState)].length [vi y111.Index, vi y111.Term, .slice A114 y111.Pairs.length c114, .slice A115 y111.Sessions.length c115, vi p1.Index, vi p1.Term, .slice A63 l63.length c63, .slice A5 p1.Sessions.length c5], blk g9 [vb false] 4, blk g8 [vu8 p2] 5], hst342, fun Y342 W383 hst383 => ?_⟩
            replace hst383 : Ht w0 (frz zr342 :: (blk g333 [vi x381] 3) :: (blk g323 [vi y317.Index, vi y317.Term, .slice A320 y317.Pairs.length c320, .slice A321 y317.Sessions.length c321] 47) :: (orow 47 4 (.slice A116 [y111, (⟨p1.Index, p1.Term, l63, p1.Sessions⟩ : apiState)].length 2) [y111, (⟨p1.Index, p1.Term, l63, p1.Sessions⟩ : apiState)].length [vi y111.Index, vi y111.Term, .slice A114 y111.Pairs.length c114, .slice A115 y111.Sessions.length c115, vi p1.Index, vi p1.Term, .slice A63 l63.length c63, .slice A5 p1.Sessions.length c5]) :: (blk g9 [vb false] 4) :: (blk g8 [vu8 p2] 5) :: Y342) _ := hst383
            refine Run.block ?_
            refine Run.seq ?_
            refine Run.seq ?_
            refine Run.drawH [([], fun w => ∃ ζ Y, Le zr342 ζ ∧ Ht w0 (frz ζ :: (blk g333 [vi x381] 3) :: (blk g323 [vi y317.Index, vi y317.Term, .slice A320 y317.Pairs.length c320, .slice A321 y317.Sessions.length c321] 47) :: (orow 47 4 (.slice A116 [y111, (⟨p1.Index, p1.Term, l63, p1.Sessions⟩ : apiState)].length 2) [y111, (⟨p1.Index, p1.Term, l63, p1.Sessions⟩ : apiState)].length [vi y111.Index, vi y111.Term, .slice A114 y111.Pairs.length c114, .slice A115 y111.Sessions.length c115, vi p1.Index, vi p1.Term, .slice A63 l63.length c63, .slice A5 p1.Sessions.length c5]) :: (blk g9 [vb false] 4) :: (blk g8 [vu8 p2] 5) :: Y) w)] (by kernel_rfl) hst383 (fun w384 hst384 => ?_)
            have hS0 := (⟨_, _, (Le.refl _), (St.up (St.up (St.up (St.up (St.up (St.up hst384 5 rfl) 5 rfl) 5 rfl) 5 rfl) 5 rfl) 5 rfl)⟩ : (fun w => ∃ ζ Y, Le zr342 ζ ∧ Ht w0 (frz ζ :: (blk g333 [vi x381] 3) :: (blk g323 [vi y317.Index, vi y317.Term, .slice A320 y317.Pairs.length c320, .slice A321 y317.Sessions.length c321] 47) :: (orow 47 4 (.slice A116 [y111, (⟨p1.Index, p1.Term, l63, p1.Sessions⟩ : apiState)].length 2) [y111, (⟨p1.Index, p1.Term, l63, p1.Sessions⟩ : apiState)].length [vi y111.Index, vi y111.Term, .slice A114 y111.Pairs.length c114, .slice A115 y111.Sessions.length c115, vi p1.Index, vi p1.Term, .slice A63 l63.length c63, .slice A5 p1.Sessions.length c5]) :: (blk g9 [vb false] 4) :: (blk g8 [vu8 p2] 5) :: Y) w) _)
            refine Any.take 0 0 rfl rfl rfl rfl rfl (by kernel_rfl) (fun _ _ _ _ _ h => h) (ExS.load rfl Tryd.underlying3 rfl (fun w hS => by obtain ⟨_, _, _, hs⟩ := hS; exact hs.cell (i := 1) rfl rfl)) hS0 ?_
            refine Any.takeE 1 rfl rfl rfl rfl (by kernel_rfl) (fun _ _ _ _ _ h => h) ((Ex.fieldAddr rfl Tryd.underlying47 rfl sz44).s) ?_
            refine Any.take 0 2 rfl rfl rfl rfl rfl (by kernel_rfl) (fun _ _ _ _ _ h => h) (ExS.load rfl Tryd.underlying44 rfl (fun w hS => by obtain ⟨_, _, _, hs⟩ := hS; exact hs.cell (i := 2) rfl rfl)) hS0 ?_
            refine Any.takeE 3 rfl rfl rfl rfl (by kernel_rfl) (fun _ _ _ _ _ h => h) ((Ex.len' rfl rfl rfl Tryd.underlying44).s) ?_
            refine Any.takeE 4 rfl rfl rfl rfl (by kernel_rfl) (fun _ _ _ _ _ h => h) ((Ex.geq rfl rfl).s) ?_
            refine Any.takeE 5 rfl rfl rfl rfl (by kernel_rfl) (fun _ _ _ _ _ h => h) ((Ex.move rfl).s) ?_
            refine Any.case 64 rfl (fun hc => ?_) (fun hc => ?_)
            · replace hf := ifT (dec_T hc) hf
              refine Any.pass 6 rfl rfl rfl rfl (by kernel_rfl) (fun _ _ _ _ _ h => h) ?_
              refine Any.pass 7 rfl rfl rfl rfl (by kernel_rfl) (fun _ _ _ _ _ h => h) ?_
              refine Any.pass 8 rfl rfl rfl rfl (by kernel_rfl) (fun _ _ _ _ _ h => h) ?_
              refine Any.pass 9 rfl rfl rfl rfl (by kernel_rfl) (fun _ _ _ _ _ h => h) ?_
              refine Any.pass 10 rfl rfl rfl rfl (by kernel_rfl) (fun _ _ _ _ _ h => h) ?_
              refine Any.pass 11 rfl rfl rfl rfl (by kernel_rfl) (fun _ _ _ _ _ h => h) ?_
              refine Any.pass 12 rfl rfl rfl rfl (by kernel_rfl) (fun _ _ _ _ _ h => h) ?_
              refine Any.pass 13 rfl rfl rfl rfl (by kernel_rfl) (fun _ _ _ _ _ h => h) ?_
              refine Any.pass 14 rfl rfl rfl rfl (by kernel_rfl) (fun _ _ _ _ _ h => h) ?_
              refine Any.pass 15 rfl rfl rfl rfl (by kernel_rfl) (fun _ _ _ _ _ h => h) ?_
              refine Any.pass 16 rfl rfl rfl rfl (by kernel_rfl) (fun _ _ _ _ _ h => h) ?_
              refine Any.pass 17 rfl rfl rfl rfl (by kernel_rfl) (fun _ _ _ _ _ h => h) ?_
              refine Any.pass 18 rfl rfl rfl rfl (by kernel_rfl) (fun _ _ _ _ _ h => h) ?_
              refine Any.pass 19 rfl rfl rfl rfl (by kernel_rfl) (fun _ _ _ _ _ h => h) ?_
              refine Any.pass 20 rfl rfl rfl rfl (by kernel_rfl) (fun _ _ _ _ _ h => h) ?_
              refine Any.pass 21 rfl rfl rfl rfl (by kernel_rfl) (fun _ _ _ _ _ h => h) ?_
              refine Any.pass 22 rfl rfl rfl rfl (by kernel_rfl) (fun _ _ _ _ _ h => h) ?_
              refine Any.pass 23 rfl rfl rfl rfl (by kernel_rfl) (fun _ _ _ _ _ h => h) ?_
              refine Any.takeE 24 rfl rfl rfl rfl (by kernel_rfl) (fun _ _ _ _ _ h => h) ((Ex.pickT rfl rfl).s) ?_
              refine Any.done (by kernel_rfl) ?_
              refine Run.condT rfl rfl ?_
              refine Run.seq ?_
              refine Run.region ?_
              refine Ops.store 4 [vb false] hst384 rfl rfl rfl rfl sz4 rfl (by simp [Value.oneCell']) (by simp) (fun w385 hst385 => ?_)
              refine Ops.nil ?_
              obtain rfl := Option.some.inj hf
              exact Run.retZ rfl (Nat.succ_ne_zero _) rfl (Le.refl _) ⟨x381, rfl, hm342_0, hm342_1, hm342_2, hm342_3, hm342_4, hm342_5, rfl⟩ hst385
            · replace hf := ifF (dec_F hc) hf
              refine Any.takeE 6 rfl rfl rfl rfl (by kernel_rfl) (fun _ _ _ _ _ h => h) (ExS.g ((Ex.move rfl).s)) ?_
              refine Any.takeE 7 rfl rfl rfl rfl (by kernel_rfl) (fun _ _ _ _ _ h => h) (ExS.g ((Ex.fieldAddr rfl Tryd.underlying47 rfl sz44).s)) ?_
              refine Any.take 0 8 rfl rfl rfl rfl rfl (by kernel_rfl) (fun _ _ _ _ _ h => h) (ExS.g (ExS.load rfl Tryd.underlying44 rfl (fun w hS => by obtain ⟨_, _, _, hs⟩ := hS; exact hs.cell (i := 2) rfl rfl))) hS0 ?_
              refine Any.take 0 9 rfl rfl rfl rfl rfl (by kernel_rfl) (fun _ _ _ _ _ h => h) (ExS.g (ExS.load rfl Tryd.underlying3 rfl (fun w hS => by obtain ⟨_, _, _, hs⟩ := hS; exact hs.cell (i := 1) rfl rfl))) hS0 ?_
              obtain ⟨y386, hy386, hf⟩ := bnd hf
              obtain ⟨g390, p390, o390, cs390, hA390, ho390, hr390, f390⟩ := SlH.elem f320.toH hy386
              obtain rfl := hr390
              refine Any.takeE 10 rfl rfl rfl rfl (by kernel_rfl) (fun _ _ _ _ _ h => h) (ExS.g ((Ex.ixA hA390 ho390 hy386 rfl rfl rfl Tryd.underlying44 sz49).s)) ?_
              refine Any.takeE 11 rfl rfl rfl rfl (by kernel_rfl) (fun _ _ _ _ _ h => h) (ExS.g ((Ex.fieldAddr rfl Tryd.underlying49 rfl sz9).s)) ?_
              refine Any.take 0 12 rfl rfl rfl rfl rfl (by kernel_rfl) (fun _ _ _ _ _ h => h) (ExS.g (ExS.load rfl Tryd.underlying9 rfl (fun w hS => by obtain ⟨_, _, hz, hs⟩ := hS; exact (f390.mono (hz.trans hs.le)) 0 _ rfl))) hS0 ?_
              obtain ⟨s391, hy391, hf⟩ := bnd hf
              refine Any.takeE 13 rfl rfl rfl rfl (by kernel_rfl) (fun _ _ _ _ _ h => h) (ExS.g ((Ex.addT (s := [34]) hy391 rfl rfl).s)) ?_
              obtain ⟨s392, hy392, hf⟩ := bnd hf
              refine Any.takeE 14 rfl rfl rfl rfl (by kernel_rfl) (fun _ _ _ _ _ h => h) (ExS.g ((Ex.addT (t := [34, 32, 61, 32, 34]) hy392 rfl rfl).s)) ?_
              refine Any.takeE 15 rfl rfl rfl rfl (by kernel_rfl) (fun _ _ _ _ _ h => h) (ExS.g ((Ex.fieldAddr rfl Tryd.underlying47 rfl sz44).s)) ?_
              refine Any.take 0 16 rfl rfl rfl rfl rfl (by kernel_rfl) (fun _ _ _ _ _ h => h) (ExS.g (ExS.load rfl Tryd.underlying44 rfl (fun w hS => by obtain ⟨_, _, _, hs⟩ := hS; exact hs.cell (i := 2) rfl rfl))) hS0 ?_
              refine Any.take 0 17 rfl rfl rfl rfl rfl (by kernel_rfl) (fun _ _ _ _ _ h => h) (ExS.g (ExS.load rfl Tryd.underlying3 rfl (fun w hS => by obtain ⟨_, _, _, hs⟩ := hS; exact hs.cell (i := 1) rfl rfl))) hS0 ?_
              obtain ⟨g396, p396, o396, cs396, hA396, ho396, hr396, f396⟩ := SlH.elem f320.toH hy386
              obtain rfl := hr396
              refine Any.takeE 18 rfl rfl rfl rfl (by kernel_rfl) (fun _ _ _ _ _ h => h) (ExS.g ((Ex.ixA hA396 ho396 hy386 rfl rfl rfl Tryd.underlying44 sz49).s)) ?_
              refine Any.takeE 19 rfl rfl rfl rfl (by kernel_rfl) (fun _ _ _ _ _ h => h) (ExS.g ((Ex.fieldAddr rfl Tryd.underlying49 rfl sz9).s)) ?_
              refine Any.take 0 20 rfl rfl rfl rfl rfl (by kernel_rfl) (fun _ _ _ _ _ h => h) (ExS.g (ExS.load rfl Tryd.underlying9 rfl (fun w hS => by obtain ⟨_, _, hz, hs⟩ := hS; exact (f396.mono (hz.trans hs.le)) 1 _ rfl))) hS0 ?_
              obtain ⟨s397, hy397, hf⟩ := bnd hf
              refine Any.takeE 21 rfl rfl rfl rfl (by kernel_rfl) (fun _ _ _ _ _ h => h) (ExS.g ((Ex.addT hy397 rfl rfl).s)) ?_
              obtain ⟨s398, hy398, hf⟩ := bnd hf
              refine Any.takeE 22 rfl rfl rfl rfl (by kernel_rfl) (fun _ _ _ _ _ h => h) (ExS.g ((Ex.addT (t := [34, 10]) hy398 rfl rfl).s)) ?_
              refine Any.takeE 23 rfl rfl rfl rfl (by kernel_rfl) (fun _ _ _ _ _ h => h) (ExS.g ((Ex.neqT rfl rfl).s)) ?_
              refine Any.takeE 24 rfl rfl rfl rfl (by kernel_rfl) (fun _ _ _ _ _ h => h) ((Ex.pickF rfl rfl).s) ?_
              refine Any.done (by kernel_rfl) ?_
              refine Run.cond rfl (fun hc => ?_) (fun hc => ?_)
              · replace hf := ifF (neq_T hc) hf
                refine Run.seq ?_
                refine Run.region ?_
                refine Ops.store 4 [vb false] hst384 rfl rfl rfl rfl sz4 rfl (by simp [Value.oneCell']) (by simp) (fun w399 hst399 => ?_)
                refine Ops.nil ?_
                obtain rfl := Option.some.inj hf
                exact Run.retZ rfl (Nat.succ_ne_zero _) rfl (Le.refl _) ⟨x381, rfl, hm342_0, hm342_1, hm342_2, hm342_3, hm342_4, hm342_5, rfl⟩ hst399
              · replace hf := ifT (neq_F hc) hf
                refine Run.skip ?_
                refine Run.seq ?_
                refine Run.region ?_
                refine Ops.load rfl Tryd.underlying3 rfl (hst384.cell (i := 1) rfl rfl) rfl ?_
                refine Ops.ex (Ex.add rfl rfl) rfl rfl rfl ?_
                refine Ops.store 1 [vi (wr (x381 + 1))] hst384 rfl rfl rfl rfl sz3 rfl (by simp [Value.oneCell']) (by simp) (fun w400 hst400 => ?_)
                refine Ops.nil ?_
                refine Run.seq ?_
                refine Run.region ?_
                refine Ops.load rfl Tryd.underlying3 rfl (hst400.cell (i := 1) rfl rfl) rfl ?_
                refine Ops.load rfl Tryd.underlying5 rfl (hst400.cell (i := 5) rfl rfl) rfl ?_
                refine Ops.ex (Ex.rem8 (a := p2) (b := 40) rfl rfl (by decide)) rfl rfl rfl ?_
                refine Ops.ex (Ex.cu8 rfl Tryd.underlying5 Tryd.underlying3) rfl rfl rfl ?_
                refine Ops.ex (Ex.gtr rfl rfl) rfl rfl rfl ?_
                refine Ops.nil ?_
                refine Run.cond rfl (fun hc => ?_) (fun hc => ?_)
                · replace hf := ifT (dec_T hc) hf
                  obtain rfl := Option.some.inj hf
                  exact Run.exitZ rfl rfl (Nat.succ_ne_zero _) rfl (Le.refl _) ⟨wr (x381 + 1), rfl, hm342_0, hm342_1, hm342_2, hm342_3, hm342_4, hm342_5, rfl⟩ hst400
                · replace hf := ifF (dec_F hc) hf
                  refine Run.skip ?_
                  refine Run.endBlk ?_
                  obtain rfl := Option.some.inj hf
                  exact Run.endZ rfl rfl (Le.refl _) ⟨wr (x381 + 1), rfl, hm342_0, hm342_1, hm342_2, hm342_3, hm342_4, hm342_5, rfl⟩ hst400
          · rintro z1_ zd342 Hs_ D342 W_ h0 ⟨x381, rfl, hm342_0, hm342_1, hm342_2, hm342_3, hm342_4, hm342_5, rfl⟩ hz12 hzd hst342
            replace f320 := f320.mono (hm342_0.trans hz12); replace f321 := f321.mono (hm342_0.trans hz12); replace f116 := f116.mono (hm342_0.trans hz12); replace hT := hT.mono (hm342_0.trans hz12)
            replace hm342_0 := hm342_0.trans hz12; replace hm342_1 := hm342_1.trans hz12; replace hm342_2 := hm342_2.trans hz12; replace hm342_3 := hm342_3.trans hz12; replace hm342_4 := hm342_4.trans hz12; replace hm342_5 := hm342_5.trans hz12
            replace f339 := f339.mono hzd; replace f340 := f340.mono hzd
            have hst342' : Ht w0 (frz zd342 :: (blk g333 [vi x381] 3) :: (blk g323 [vi y317.Index, vi y317.Term, .slice A320 y317.Pairs.length c320, .slice A321 y317.Sessions.length c321] 47) :: (orow 47 4 (.slice A116 [y111, (⟨p1.Index, p1.Term, l63, p1.Sessions⟩ : apiState)].length 2) [y111, (⟨p1.Index, p1.Term, l63, p1.Sessions⟩ : apiState)].length [vi y111.Index, vi y111.Term, .slice A114 y111.Pairs.length c114, .slice A115 y111.Sessions.length c115, vi p1.Index, vi p1.Term, .slice A63 l63.length c63, .slice A5 p1.Sessions.length c5]) :: (blk g9 [vb false] 4) :: (blk g8 [vu8 p2] 5) :: ob D342 (.deferred (some [])) :: (blk g336 [vi y335.Index, vi y335.Term, .slice A339 y335.Pairs.length c339, .slice A340 y335.Sessions.length c340] 47) :: (mkD Dsb117 ++ X)) _ := hst342
            try dsimp only at hf
            replace hf := ifT h0 hf
            refine Run.endBlk ?_
            refine Run.seq ?_
            refine Run.region ?_
            refine Ops.load rfl Tryd.underlying3 rfl (hst342'.cell (i := 1) rfl rfl) rfl ?_
            refine Ops.ex (Ex.fieldAddr rfl Tryd.underlying47 rfl sz44) rfl rfl rfl ?_
            refine Ops.load rfl Tryd.underlying44 rfl (hst342'.cell (i := 2) rfl rfl) rfl ?_
            refine Ops.ex (Ex.len' rfl rfl rfl Tryd.underlying44) rfl rfl rfl ?_
            refine Ops.load rfl Tryd.underlying5 rfl (hst342'.cell (i := 5) rfl rfl) rfl ?_
            refine Ops.ex (Ex.rem8 (a := p2) (b := 40) rfl rfl (by decide)) rfl rfl rfl ?_
            refine Ops.ex (Ex.cu8 rfl Tryd.underlying5 Tryd.underlying3) rfl rfl rfl ?_
            refine Ops.ex (Ex.add rfl rfl) rfl rfl rfl ?_
            refine Ops.ex (Ex.min2 rfl rfl rfl) rfl rfl rfl ?_
            refine Ops.ex (Ex.neqI rfl rfl) rfl rfl rfl ?_
            refine Ops.nil ?_
            refine Run.cond rfl (fun hc => ?_) (fun hc => ?_)
            · replace hf := ifF (neq_T hc) hf
              refine Run.seq ?_
              refine Run.region ?_
              refine Ops.store 4 [vb false] hst342' rfl rfl rfl rfl sz4 rfl (by simp [Value.oneCell']) (by simp) (fun w401 hst401 => ?_)
              refine Ops.nil ?_
              obtain ⟨hD402, hst402⟩ := St.shutD hst401 6 rfl
              have hst402 : Ht w0 (frz zd342 :: (blk g333 [vi x381] 3) :: (blk g323 [vi y317.Index, vi y317.Term, .slice A320 y317.Pairs.length c320, .slice A321 y317.Sessions.length c321] 47) :: (orow 47 4 (.slice A116 [y111, (⟨p1.Index, p1.Term, l63, p1.Sessions⟩ : apiState)].length 2) [y111, (⟨p1.Index, p1.Term, l63, p1.Sessions⟩ : apiState)].length [vi y111.Index, vi y111.Term, .slice A114 y111.Pairs.length c114, .slice A115 y111.Sessions.length c115, vi p1.Index, vi p1.Term, .slice A63 l63.length c63, .slice A5 p1.Sessions.length c5]) :: (blk g9 [vb false] 4) :: (blk g8 [vu8 p2] 5) :: ob D342 (.deferred none) :: (blk g336 [vi y335.Index, vi y335.Term, .slice A339 y335.Pairs.length c339, .slice A340 y335.Sessions.length c340] 47) :: (mkD Dsb117 ++ X)) _ := hst402
              obtain ⟨wD403, hD403, hst403⟩ := St.shutAll (A := [frz zd342, blk g333 [vi x381] 3, blk g323 [vi y317.Index, vi y317.Term, .slice A320 y317.Pairs.length c320, .slice A321 y317.Sessions.length c321] 47, orow 47 4 (.slice A116 [y111, (⟨p1.Index, p1.Term, l63, p1.Sessions⟩ : apiState)].length 2) [y111, (⟨p1.Index, p1.Term, l63, p1.Sessions⟩ : apiState)].length [vi y111.Index, vi y111.Term, .slice A114 y111.Pairs.length c114, .slice A115 y111.Sessions.length c115, vi p1.Index, vi p1.Term, .slice A63 l63.length c63, .slice A5 p1.Sessions.length c5], blk g9 [vb false] 4, blk g8 [vu8 p2] 5, ob D342 (.deferred none), blk g336 [vi y335.Index, vi y335.Term, .slice A339 y335.Pairs.length c339, .slice A340 y335.Sessions.length c340] 47]) Dsb117 hst402
              have hst403 : Ht w0 (frz zd342 :: (blk g333 [vi x381] 3) :: (blk g323 [vi y317.Index, vi y317.Term, .slice A320 y317.Pairs.length c320, .slice A321 y317.Sessions.length c321] 47) :: (orow 47 4 (.slice A116 [y111, (⟨p1.Index, p1.Term, l63, p1.Sessions⟩ : apiState)].length 2) [y111, (⟨p1.Index, p1.Term, l63, p1.Sessions⟩ : apiState)].length [vi y111.Index, vi y111.Term, .slice A114 y111.Pairs.length c114, .slice A115 y111.Sessions.length c115, vi p1.Index, vi p1.Term, .slice A63 l63.length c63, .slice A5 p1.Sessions.length c5]) :: (blk g9 [vb false] 4) :: (blk g8 [vu8 p2] 5) :: ob D342 (.deferred none) :: (blk g336 [vi y335.Index, vi y335.Term, .slice A339 y335.Pairs.length c339, .slice A340 y335.Sessions.length c340] 47) :: X) _ := hst403
              obtain rfl := Option.some.inj hf
              exact Run.retW [vb false] (Shut.cons hD402 hD403) ⟨⟨_, rfl, run_load1 Tryd.underlying4 rfl (hst403.cell (i := 4) rfl rfl)⟩, trivial⟩ ⟨zd342, rfl, hm342_1, (St.forget (St.forget (St.forget (St.forget (St.forget (St.forget (St.forget hst403 7) 6) 5) 4) 3) 2) 1)⟩
            · replace hf := ifT (neq_F hc) hf
              refine Run.skip ?_
              refine Run.endBlk ?_
              refine Run.region ?_
              refine Ops.ex (Ex.add rfl rfl) rfl rfl rfl ?_
              refine Ops.ex (Ex.move rfl) rfl rfl rfl ?_
              refine Ops.nil ?_
              have hst404 : Ht w0 (frz zd342 :: (blk g333 [vi x381] 3) :: (blk g323 [vi y317.Index, vi y317.Term, .slice A320 y317.Pairs.length c320, .slice A321 y317.Sessions.length c321] 47) :: (orow 47 4 (.slice A116 [y111, (⟨p1.Index, p1.Term, l63, p1.Sessions⟩ : apiState)].length 2) [y111, (⟨p1.Index, p1.Term, l63, p1.Sessions⟩ : apiState)].length [vi y111.Index, vi y111.Term, .slice A114 y111.Pairs.length c114, .slice A115 y111.Sessions.length c115, vi p1.Index, vi p1.Term, .slice A63 l63.length c63, .slice A5 p1.Sessions.length c5]) :: (blk g9 [vb false] 4) :: (blk g8 [vu8 p2] 5) :: (blk g336 [vi y335.Index, vi y335.Term, .slice A339 y335.Pairs.length c339, .slice A340 y335.Sessions.length c340] 47) :: (mkD (D342 :: Dsb117) ++ X)) _ := (St.up (St.up (St.up (St.up (St.up (St.up (St.up (St.up hst342' 6 rfl) 7 rfl) 7 rfl) 7 rfl) 7 rfl) 7 rfl) 7 rfl) 7 rfl)
              exact Run.sub (by exact subB_spec ⟨rfl, rfl, rfl, rfl, rfl, trivial⟩) (Run.stopF ⟨(D342 :: Dsb117), mb117', rfl, Nat.lt_succ_self _, wr (x315 + 1), zd342, (hnxb117 _).symm.trans hf, rfl, hm342_4, hm342_1, hm342_2, hm342_3, (St.forget (St.forget (St.forget hst404 6) 2) 1)⟩)
          · rintro z1_ zd342 Hs_ D342 W_ h0 ⟨x381, rfl, hm342_0, hm342_1, hm342_2, hm342_3, hm342_4, hm342_5, rfl⟩ hz12 hzd hst342
            replace f320 := f320.mono (hm342_0.trans hz12); replace f321 := f321.mono (hm342_0.trans hz12); replace f116 := f116.mono (hm342_0.trans hz12); replace hT := hT.mono (hm342_0.trans hz12)
            replace hm342_0 := hm342_0.trans hz12; replace hm342_1 := hm342_1.trans hz12; replace hm342_2 := hm342_2.trans hz12; replace hm342_3 := hm342_3.trans hz12; replace hm342_4 := hm342_4.trans hz12; replace hm342_5 := hm342_5.trans hz12
            replace f339 := f339.mono hzd; replace f340 := f340.mono hzd
            have hst342' : Ht w0 (frz zd342 :: (blk g333 [vi x381] 3) :: (blk g323 [vi y317.Index, vi y317.Term, .slice A320 y317.Pairs.length c320, .slice A321 y317.Sessions.length c321] 47) :: (orow 47 4 (.slice A116 [y111, (⟨p1.Index, p1.Term, l63, p1.Sessions⟩ : apiState)].length 2) [y111, (⟨p1.Index, p1.Term, l63, p1.Sessions⟩ : apiState)].length [vi y111.Index, vi y111.Term, .slice A114 y111.Pairs.length c114, .slice A115 y111.Sessions.length c115, vi p1.Index, vi p1.Term, .slice A63 l63.length c63, .slice A5 p1.Sessions.length c5]) :: (blk g9 [vb false] 4) :: (blk g8 [vu8 p2] 5) :: ob D342 (.deferred (some [])) :: (blk g336 [vi y335.Index, vi y335.Term, .slice A339 y335.Pairs.length c339, .slice A340 y335.Sessions.length c340] 47) :: (mkD Dsb117 ++ X)) _ := hst342
            try dsimp only at hf
            replace hf := ifF h0 hf
            by_cases hj0 : yj342 = 1
            · subst hj0
              replace hf := ifT rfl hf
              show Run _ _ _ (.code (Code.ret) :: _) _ _
              obtain ⟨hD405, hst405⟩ := St.shutD hst342' 6 rfl
              have hst405 : Ht w0 (frz zd342 :: (blk g333 [vi x381] 3) :: (blk g323 [vi y317.Index, vi y317.Term, .slice A320 y317.Pairs.length c320, .slice A321 y317.Sessions.length c321] 47) :: (orow 47 4 (.slice A116 [y111, (⟨p1.Index, p1.Term, l63, p1.Sessions⟩ : apiState)].length 2) [y111, (⟨p1.Index, p1.Term, l63, p1.Sessions⟩ : apiState)].length [vi y111.Index, vi y111.Term, .slice A114 y111.Pairs.length c114, .slice A115 y111.Sessions.length c115, vi p1.Index, vi p1.Term, .slice A63 l63.length c63, .slice A5 p1.Sessions.length c5]) :: (blk g9 [vb false] 4) :: (blk g8 [vu8 p2] 5) :: ob D342 (.deferred none) :: (blk g336 [vi y335.Index, vi y335.Term, .slice A339 y335.Pairs.length c339, .slice A340 y335.Sessions.length c340] 47) :: (mkD Dsb117 ++ X)) _ := hst405
              obtain ⟨wD406, hD406, hst406⟩ := St.shutAll (A := [frz zd342, blk g333 [vi x381] 3, blk g323 [vi y317.Index, vi y317.Term, .slice A320 y317.Pairs.length c320, .slice A321 y317.Sessions.length c321] 47, orow 47 4 (.slice A116 [y111, (⟨p1.Index, p1.Term, l63, p1.Sessions⟩ : apiState)].length 2) [y111, (⟨p1.Index, p1.Term, l63, p1.Sessions⟩ : apiState)].length [vi y111.Index, vi y111.Term, .slice A114 y111.Pairs.length c114, .slice A115 y111.Sessions.length c115, vi p1.Index, vi p1.Term, .slice A63 l63.length c63, .slice A5 p1.Sessions.length c5], blk g9 [vb false] 4, blk g8 [vu8 p2] 5, ob D342 (.deferred none), blk g336 [vi y335.Index, vi y335.Term, .slice A339 y335.Pairs.length c339, .slice A340 y335.Sessions.length c340] 47]) Dsb117 hst405
              have hst406 : Ht w0 (frz zd342 :: (blk g333 [vi x381] 3) :: (blk g323 [vi y317.Index, vi y317.Term, .slice A320 y317.Pairs.length c320, .slice A321 y317.Sessions.length c321] 47) :: (orow 47 4 (.slice A116 [y111, (⟨p1.Index, p1.Term, l63, p1.Sessions⟩ : apiState)].length 2) [y111, (⟨p1.Index, p1.Term, l63, p1.Sessions⟩ : apiState)].length [vi y111.Index, vi y111.Term, .slice A114 y111.Pairs.length c114, .slice A115 y111.Sessions.length c115, vi p1.Index, vi p1.Term, .slice A63 l63.length c63, .slice A5 p1.Sessions.length c5]) :: (blk g9 [vb false] 4) :: (blk g8 [vu8 p2] 5) :: ob D342 (.deferred none) :: (blk g336 [vi y335.Index, vi y335.Term, .slice A339 y335.Pairs.length c339, .slice A340 y335.Sessions.length c340] 47) :: X) _ := hst406
              obtain rfl := Option.some.inj hf
              exact Run.retW [vb false] (Shut.cons hD405 hD406) ⟨⟨_, rfl, run_load1 Tryd.underlying4 rfl (hst406.cell (i := 4) rfl rfl)⟩, trivial⟩ ⟨zd342, rfl, hm342_1, (St.forget (St.forget (St.forget (St.forget (St.forget (St.forget (St.forget hst406 7) 6) 5) 4) 3) 2) 1)⟩
            · replace hf := ifF hj0 hf
              by_cases hj1 : yj342 = 2
              · subst hj1
                replace hf := ifT rfl hf
                show Run _ _ _ (.code (Code.exit 4) :: _) _ _
                refine Run.exit _ rfl ?_
                refine Run.seq ?_
                refine Run.region ?_
                refine Ops.load rfl Tryd.underlying3 rfl (hst342'.cell (i := 1) rfl rfl) rfl ?_
                refine Ops.ex (Ex.fieldAddr rfl Tryd.underlying47 rfl sz44) rfl rfl rfl ?_
                refine Ops.load rfl Tryd.underlying44 rfl (hst342'.cell (i := 2) rfl rfl) rfl ?_
                refine Ops.ex (Ex.len' rfl rfl rfl Tryd.underlying44) rfl rfl rfl ?_
                refine Ops.load rfl Tryd.underlying5 rfl (hst342'.cell (i := 5) rfl rfl) rfl ?_
                refine Ops.ex (Ex.rem8 (a := p2) (b := 40) rfl rfl (by decide)) rfl rfl rfl ?_
                refine Ops.ex (Ex.cu8 rfl Tryd.underlying5 Tryd.underlying3) rfl rfl rfl ?_
                refine Ops.ex (Ex.add rfl rfl) rfl rfl rfl ?_
                refine Ops.ex (Ex.min2 rfl rfl rfl) rfl rfl rfl ?_
                refine Ops.ex (Ex.neqI rfl rfl) rfl rfl rfl ?_
                refine Ops.nil ?_
                refine Run.cond rfl (fun hc => ?_) (fun hc => ?_)
                · replace hf := ifF (neq_T hc) hf
                  refine Run.seq ?_
                  refine Run.region ?_
                  refine Ops.store 4 [vb false] hst342' rfl rfl rfl rfl sz4 rfl (by simp [Value.oneCell']) (by simp) (fun w407 hst407 => ?_)
                  refine Ops.nil ?_
                  obtain ⟨hD408, hst408⟩ := St.shutD hst407 6 rfl
                  have hst408 : Ht w0 (frz zd342 :: (blk g333 [vi x381] 3) :: (blk g323 [vi y317.Index, vi y317.Term, .slice A320 y317.Pairs.length c320, .slice A321 y317.Sessions.length c321] 47) :: (orow 47 4 (.slice A116 [y111, (⟨p1.Index, p1.Term, l63, p1.Sessions⟩ : apiState)].length 2) [y111, (⟨p1.Index, p1.Term, l63, p1.Sessions⟩ : apiState)].length [vi y111.Index, vi y111.Term, .slice A114 y111.Pairs.length c114, .slice A115 y111.Sessions.length c115, vi p1.Index, vi p1.Term, .slice A63 l63.length c63, .slice A5 p1.Sessions.length c5]) :: (blk g9 [vb false] 4) :: (blk g8 [vu8 p2] 5) :: ob D342 (.deferred none) :: (blk g336 [vi y335.Index, vi y335.Term, .slice A339 y335.Pairs.length c339, .slice A340 y335.Sessions.length c340] 47) :: (mkD Dsb117 ++ X)) _ := hst408
                  obtain ⟨wD409, hD409, hst409⟩ := St.shutAll (A := [frz zd342, blk g333 [vi x381] 3, blk g323 [vi y317.Index, vi y317.Term, .slice A320 y317.Pairs.length c320, .slice A321 y317.Sessions.length c321] 47, orow 47 4 (.slice A116 [y111, (⟨p1.Index, p1.Term, l63, p1.Sessions⟩ : apiState)].length 2) [y111, (⟨p1.Index, p1.Term, l63, p1.Sessions⟩ : apiState)].length [vi y111.Index, vi y111.Term, .slice A114 y111.Pairs.length c114, .slice A115 y111.Sessions.length c115, vi p1.Index, vi p1.Term, .slice A63 l63.length c63, .slice A5 p1.Sessions.length c5], blk g9 [vb false] 4, blk g8 [vu8 p2] 5, ob D342 (.deferred none), blk g336 [vi y335.Index, vi y335.Term, .slice A339 y335.Pairs.length c339, .slice A340 y335.Sessions.length c340] 47]) Dsb117 hst408
                  have hst409 : Ht w0 (frz zd342 :: (blk g333 [vi x381] 3) :: (blk g323 [vi y317.Index, vi y317.Term, .slice A320 y317.Pairs.length c320, .slice A321 y317.Sessions.length c321] 47) :: (orow 47 4 (.slice A116 [y111, (⟨p1.Index, p1.Term, l63, p1.Sessions⟩ : apiState)].length 2) [y111, (⟨p1.Index, p1.Term, l63, p1.Sessions⟩ : apiState)].length [vi y111.Index, vi y111.Term, .slice A114 y111.Pairs.length c114, .slice A115 y111.Sessions.length c115, vi p1.Index, vi p1.Term, .slice A63 l63.length c63, .slice A5 p1.Sessions.length c5]) :: (blk g9 [vb false] 4) :: (blk g8 [vu8 p2] 5) :: ob D342 (.deferred none) :: (blk g336 [vi y335.Index, vi y335.Term, .slice A339 y335.Pairs.length c339, .slice A340 y335.Sessions.length c340] 47) :: X) _ := hst409
                  obtain rfl := Option.some.inj hf
                  exact Run.retW [vb false] (Shut.cons hD408 hD409) ⟨⟨_, rfl, run_load1 Tryd.underlying4 rfl (hst409.cell (i := 4) rfl rfl)⟩, trivial⟩ ⟨zd342, rfl, hm342_1, (St.forget (St.forget (St.forget (St.forget (St.forget (St.forget (St.forget hst409 7) 6) 5) 4) 3) 2) 1)⟩
                · replace hf := ifT (neq_F hc) hf
                  refine Run.skip ?_
                  refine Run.endBlk ?_
                  refine Run.region ?_
                  refine Ops.ex (Ex.add rfl rfl) rfl rfl rfl ?_
                  refine Ops.ex (Ex.move rfl) rfl rfl rfl ?_
                  refine Ops.nil ?_
                  have hst410 : Ht w0 (frz zd342 :: (blk g333 [vi x381] 3) :: (blk g323 [vi y317.Index, vi y317.Term, .slice A320 y317.Pairs.length c320, .slice A321 y317.Sessions.length c321] 47) :: (orow 47 4 (.slice A116 [y111, (⟨p1.Index, p1.Term, l63, p1.Sessions⟩ : apiState)].length 2) [y111, (⟨p1.Index, p1.Term, l63, p1.Sessions⟩ : apiState)].length [vi y111.Index, vi y111.Term, .slice A114 y111.Pairs.length c114, .slice A115 y111.Sessions.length c115, vi p1.Index, vi p1.Term, .slice A63 l63.length c63, .slice A5 p1.Sessions.length c5]) :: (blk g9 [vb false] 4) :: (blk g8 [vu8 p2] 5) :: (blk g336 [vi y335.Index, vi y335.Term, .slice A339 y335.Pairs.length c339, .slice A340 y335.Sessions.length c340] 47) :: (mkD (D342 :: Dsb117) ++ X)) _ := (St.up (St.up (St.up (St.up (St.up (St.up (St.up (St.up hst342' 6 rfl) 7 rfl) 7 rfl) 7 rfl) 7 rfl) 7 rfl) 7 rfl) 7 rfl)
                  exact Run.sub (by exact subB_spec ⟨rfl, rfl, rfl, rfl, rfl, trivial⟩) (Run.stopF ⟨(D342 :: Dsb117), mb117', rfl, Nat.lt_succ_self _, wr (x315 + 1), zd342, (hnxb117 _).symm.trans hf, rfl, hm342_4, hm342_1, hm342_2, hm342_3, (St.forget (St.forget (St.forget hst410 6) 2) 1)⟩)
              · replace hf := ifF hj1 hf
                cases hf
      · replace hf := ifF (dec_F hc) hf
        refine Run.exit _ rfl ?_
        refine Run.seq ?_
        refine Run.region ?_
        refine Ops.store 2 [vb true] hst316 rfl rfl rfl rfl sz4 rfl (by simp [Value.oneCell']) (by simp) (fun w411 hst411 => ?_)
        refine Ops.nil ?_
        obtain ⟨wD412, hD412, hst412⟩ := St.shutAll (A := [frz z314, orow 47 4 (.slice A116 [y111, (⟨p1.Index, p1.Term, l63, p1.Sessions⟩ : apiState)].length 2) [y111, (⟨p1.Index, p1.Term, l63, p1.Sessions⟩ : apiState)].length [vi y111.Index, vi y111.Term, .slice A114 y111.Pairs.length c114, .slice A115 y111.Sessions.length c115, vi p1.Index, vi p1.Term, .slice A63 l63.length c63, .slice A5 p1.Sessions.length c5], blk g9 [vb true] 4, blk g8 [vu8 p2] 5]) Dsb117 hst411
        have hst412 : Ht w0 (frz z314 :: (orow 47 4 (.slice A116 [y111, (⟨p1.Index, p1.Term, l63, p1.Sessions⟩ : apiState)].length 2) [y111, (⟨p1.Index, p1.Term, l63, p1.Sessions⟩ : apiState)].length [vi y111.Index, vi y111.Term, .slice A114 y111.Pairs.length c114, .slice A115 y111.Sessions.length c115, vi p1.Index, vi p1.Term, .slice A63 l63.length c63, .slice A5 p1.Sessions.length c5]) :: (blk g9 [vb true] 4) :: (blk g8 [vu8 p2] 5) :: X) _ := hst412
        obtain rfl := Option.some.inj hf
        exact Run.retW [vb true] hD412 ⟨⟨_, rfl, run_load1 Tryd.underlying4 rfl (hst412.cell (i := 2) rfl rfl)⟩, trivial⟩ ⟨z314, rfl, hy316_0, (St.forget (St.forget (St.forget hst412 3) 2) 1)⟩
end Go.Proofs.YtfomkndngnfneaaDoor.V6
