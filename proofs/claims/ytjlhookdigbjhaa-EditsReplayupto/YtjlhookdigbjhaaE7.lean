/- Edits: do, Shows. -/
import Derived.Test.YtjlhookdigbjhaaE6
import Derived.Test.YtjlhookdigbjhaaGnO
namespace Go.Proofs.Ytjlhookdigbjhaa.E7
open Go Go.RowKit Go.Proofs.Ytjlhookdigbjhaa.Sx Go.Proofs.Ytjlhookdigbjhaa.E1 Go.Proofs.Ytjlhookdigbjhaa.E2 Go.Proofs.Ytjlhookdigbjhaa.E3 Go.Proofs.Ytjlhookdigbjhaa.E4 Go.Proofs.Ytjlhookdigbjhaa.E5 Go.Proofs.Ytjlhookdigbjhaa.E6
set_option linter.unusedVariables false
set_option linter.unusedSimpArgs false
noncomputable section
def go_law10_do.b3 (i691 : Nat) (a691 : apiRef) : (Mp apiRef) → (Mp apiRef → Option (Mp apiRef × Int)) → Option (Mp apiRef × Int) :=
  fun mp737 nxb691 => (go_law10_may a691).bind fun y746 => if y746 then (if (mget mp737 a691.Name).isSome then (some ([], 5)) else (nxb691 (mput mp737 a691.Name a691))) else (some ([], 14))
def go_law10_do.b2 (i517 : Nat) (a517 : Str) : (Mp apiRef) → (Mp apiRef → Option (Mp apiRef × Int)) → Option (Mp apiRef × Int) :=
  fun mp679 nxb517 => if (mget mp679 a517).isSome then (nxb517 (mdel mp679 a517)) else (some ([], 6))
def go_law10_do.b1 : (Str × apiRef) → (Mp apiRef) → (Mp apiRef → Option (Mp apiRef × Int)) → Option (Mp apiRef × Int) :=
  fun a9 mp514 nxb9 => nxb9 (mput mp514 a9.1 a9.2)
def go_law10_do (p0 : Mp apiRef) (p1 : Int) (p2 : editsEdit) : Option (Mp apiRef × Int) :=
  forN (go_law10_do.b1) (fun mp514 => forL (go_law10_do.b2) (fun mp679 => forL (go_law10_do.b3) (fun mp737 => if p2.Floor < p1 then (some ([], 8)) else (if 1048576 < p2.Floor then (some ([], 8)) else (some (mp737, 0)))) 0 p2.Add mp679) 0 p2.Drop mp514) p0.length p0 []
set_option maxRecDepth 100000 in
set_option maxHeartbeats 4000000 in
theorem go_law10_do.walk {w0 w : World} {X : List Res} {z0 : Zp} {p0 : Mp apiRef} {M1 : Option Nat} {p1 : Int} {p2 : editsEdit} {A3 : Option Addr} {c3 : Nat} {A4 : Option Addr} {c4 : Nat} {r : Mp apiRef × Int} (hst : Ht w0 (frz z0 :: X) w) (f1 : Mz tapiRef pkA z0 M1 p0) (f3 : Sl tapiRef z0 A3 c3 p2.Add) (f4 : Sl tS z0 A4 c4 p2.Drop) (hf : go_law10_do p0 p1 p2 = some r) :
    Calls Try.prog 21 #[.map M1, vi p1, .agg #[.slice A3 p2.Add.length c3, .slice A4 p2.Drop.length c4, vi p2.Floor]] w fun e w' => ∃ (z' : Zp) (M9001 : Option Nat), e = .returned (.tuple #[.map M9001, vi r.2]) ∧ Le z0 z' ∧ Mz tapiRef pkA z' M9001 r.1 ∧ Ht w0 (frz z' :: X) w' := by
  refine calls_np Try.func21 rfl rfl ?_
  have hle0 := Le.refl z0
  unfold go_law10_do at hf
  refine Run.seq ?_
  refine Run.region ?_
  refine Ops.boxF [.slice A3 p2.Add.length c3, .slice A4 p2.Drop.length c4, vi p2.Floor] hst rfl rfl rfl (fun g6 w6 hst6 => ?_)
  refine Ops.ex (Ex.assign rfl) rfl rfl rfl ?_
  refine Ops.ex (Ex.assign rfl) rfl rfl rfl ?_
  refine Ops.nil ?_
  refine Run.seq ?_
  refine Run.region ?_
  refine Ops.mkmap hst6 rfl (fun g7 w7 hst7 => ?_)
  refine Ops.ex (Ex.assign rfl) rfl rfl rfl ?_
  refine Ops.nil ?_
  refine Run.seq ?_
  refine Run.seq ?_
  refine Run.region ?_
  refine Ops.ex (Ex.move rfl) rfl rfl rfl ?_
  refine Ops.mrange f1 hst7 rfl Try.underlying55 rfl (fun g8 c8 w8 f8 hst8 => ?_)
  refine Ops.nil ?_
  refine Run.block ?_
  refine Run.sub (e' := [(1, vi p1), (5, .pointer (some ⟨g6, 0, none⟩)), (8, .map (some g7)), (21, .pointer (some ⟨g8, 0, none⟩))]) (subB_spec ⟨rfl, rfl, rfl, rfl, trivial⟩) ?_
  refine Run.loop (fun mb9 => (fun e' w' => ∃ (mp9 : Mp apiRef) (mp514 : Mp apiRef) (g514 : Nat) (E514 : Array MapEntry) (c514 : Nat) (q9 : Array Nat) (z513 : Zp), mb9 = mp9.length ∧ forN (go_law10_do.b1) (fun mp514 => forL (go_law10_do.b2) (fun mp679 => forL (go_law10_do.b3) (fun mp737 => if p2.Floor < p1 then (some ([], 8)) else (if 1048576 < p2.Floor then (some ([], 8)) else (some (mp737, 0)))) 0 p2.Add mp679) 0 p2.Drop mp514) mp9.length mp9 mp514 = some r ∧ e' = [(1, vi p1), (5, .pointer (some ⟨g6, 0, none⟩)), (8, .map (some g514)), (21, .pointer (some ⟨g8, 0, none⟩))] ∧ Le z0 z513 ∧ Mr tapiRef pkA z513 E514 c514 mp514 ∧ Mi tapiRef pkA z513 M1 c8 q9 c8 mp9 ∧ Ht w0 (frz z513 :: (ob g514 (.map E514 c514)) :: (ob g8 (.mapIter M1 c8 q9 c8)) :: (blk g6 [.slice A3 p2.Add.length c3, .slice A4 p2.Drop.length c4, vi p2.Floor] 29) :: X) w')) p0.length ⟨p0, [], g7, #[], 0, #[], z0, rfl, hf, rfl, hle0, (Mr.nil tapiRef pkA _), f8, (St.up (St.up (St.up (St.up hst8 3 rfl) 2 rfl) 3 rfl) 3 rfl)⟩ ?_
  rintro _ e' w515 ⟨mp9, mp514, g514, E514, c514, q9, z513, rfl, hf, rfl, hz515, f514, fM9, hst515⟩
  replace f3 := f3.mono hz515; replace f4 := f4.mono hz515
  refine Run.seq ?_
  refine Run.region ?_
  have hsr9 := Mi.srt fM9
  refine Ops.mnext 2 hst515 rfl fM9 rfl rfl (fun hm0 => ?_) (fun a9 cs516 q516 w516 ham hR516 hC516 hM516 hst516 => ?_)
  · replace hf := forN_nil hf hm0
    try dsimp only at hf
    refine Ops.ex (Ex.extract rfl rfl) rfl rfl rfl ?_
    refine Ops.nil ?_
    refine Run.seq ?_
    refine Run.condF rfl rfl ?_
    refine Run.exit _ rfl ?_
    refine Run.seq ?_
    refine Run.seq ?_
    refine Run.region ?_
    refine Ops.ex (Ex.fieldAddr rfl Try.underlying29 rfl sz27) rfl rfl rfl ?_
    refine Ops.load rfl Try.underlying27 rfl (hst515.cell (i := 3) rfl rfl) rfl ?_
    refine Ops.ex (Ex.len' rfl rfl rfl Try.underlying27) rfl rfl rfl ?_
    refine Ops.ex (Ex.move rfl) rfl rfl rfl ?_
    refine Ops.nil ?_
    refine Run.block ?_
    have hc517 := f4.cap
    have hm518 := Le.refl z513
    refine Run.sub (e' := [(1, vi p1), (5, .pointer (some ⟨g6, 0, none⟩)), (8, .map (some g514)), (31, .slice A4 p2.Drop.length c4), (32, vi (p2.Drop.length : Int)), (33, vi ((0 : Nat) : Int))]) (subB_spec ⟨rfl, rfl, rfl, rfl, rfl, rfl, trivial⟩) ?_
    refine Run.loop (fun mb517 => (fun e' w' => ∃ (i517 : Nat) (mp679 : Mp apiRef) (g679 : Nat) (E679 : Array MapEntry) (c679 : Nat) (z678 : Zp), mb517 = p2.Drop.length - i517 ∧ i517 ≤ p2.Drop.length ∧ forL (go_law10_do.b2) (fun mp679 => forL (go_law10_do.b3) (fun mp737 => if p2.Floor < p1 then (some ([], 8)) else (if 1048576 < p2.Floor then (some ([], 8)) else (some (mp737, 0)))) 0 p2.Add mp679) i517 (p2.Drop.drop i517) mp679 = some r ∧ e' = [(1, vi p1), (5, .pointer (some ⟨g6, 0, none⟩)), (8, .map (some g679)), (31, .slice A4 p2.Drop.length c4), (32, vi (p2.Drop.length : Int)), (33, vi (i517 : Int))] ∧ Le z513 z678 ∧ Le z0 z678 ∧ Mr tapiRef pkA z678 E679 c679 mp679 ∧ Ht w0 (frz z678 :: (ob g679 (.map E679 c679)) :: (ob g8 (.mapIter M1 c8 q9 c8)) :: (blk g6 [.slice A3 p2.Add.length c3, .slice A4 p2.Drop.length c4, vi p2.Floor] 29) :: X) w')) p2.Drop.length ⟨0, mp514, g514, E514, c514, z513, rfl, Nat.zero_le _, hf, rfl, hm518, hz515, f514, hst515⟩ ?_
    rintro _ e' w680 ⟨i517, mp679, g679, E679, c679, z678, rfl, hi517, hf, rfl, hz680, hy680_0, f679, hst680⟩
    replace f4 := f4.mono hz680; replace f3 := f3.mono hz680
    refine Run.seq ?_
    refine Run.region ?_
    refine Ops.ex (Ex.lss rfl rfl) rfl rfl rfl ?_
    refine Ops.nil ?_
    refine Run.seq ?_
    refine Run.cond rfl (fun hc => ?_) (fun hc => ?_)
    · have hl517 := lt_of_dec hc
      obtain ⟨a517, nxb517, ha517, hnxb517, hf⟩ := forL_in hf hl517
      unfold go_law10_do.b2 at hf
      try dsimp only at hf
      refine Run.skip ?_
      refine Run.seq ?_
      refine Run.block ?_
      refine Run.seq ?_
      refine Run.region ?_
      obtain ⟨g682, p682, o682, cs682, hA682, ho682, hr682, f682⟩ := SlH.elem f4.toH (atI_nat ha517)
      obtain rfl := hr682
      refine Ops.ex (Ex.ixA hA682 ho682 (atI_nat ha517) rfl rfl rfl Try.underlying27 sz9) rfl rfl rfl ?_
      refine Ops.load rfl Try.underlying9 rfl ((f682.mono hst680.le) 0 _ rfl) rfl ?_
      refine Ops.ex (Ex.assign rfl) rfl rfl rfl ?_
      refine Ops.nil ?_
      refine Run.seq ?_
      refine Run.seq ?_
      refine Run.region ?_
      refine Ops.ex (Ex.move rfl) rfl rfl rfl ?_
      refine Ops.ex (Ex.move rfl) rfl rfl rfl ?_
      refine Ops.mlook (zcs := [vs [], vi 0, vi 0, vi 0]) (s := a517) (⟨[], 0, 0, 0⟩ : apiRef) (Mr.own f679 hst680 (i := 1) rfl) rfl rfl Try.underlying55 Try.underlying9 zr24 rfl rfl (fun cs683 hR683 => ?_)
      obtain rfl := hR683
      refine Ops.ex (Ex.move rfl) rfl rfl rfl ?_
      refine Ops.ex (Ex.extract rfl rfl) rfl rfl rfl ?_
      refine Ops.ex (Ex.extract rfl rfl) rfl rfl rfl ?_
      refine Ops.allocF [vs [], vi 0, vi 0, vi 0] hst680 zr24 rfl rfl (fun g688 w688 hst688 => ?_)
      refine Ops.store 1 [vs (((mget mp679 a517).getD (⟨[], 0, 0, 0⟩ : apiRef)).Name), vi (((mget mp679 a517).getD (⟨[], 0, 0, 0⟩ : apiRef)).Kind), vi (((mget mp679 a517).getD (⟨[], 0, 0, 0⟩ : apiRef)).From), vi (((mget mp679 a517).getD (⟨[], 0, 0, 0⟩ : apiRef)).To)] hst688 rfl rfl rfl rfl sz24 rfl (by simp [Value.oneCell']) (by simp) (fun w689 hst689 => ?_)
      refine Ops.ex (Ex.assign rfl) rfl rfl rfl ?_
      refine Ops.nil ?_
      refine Run.seq ?_
      refine Run.region ?_
      refine Ops.ex (Ex.move rfl) rfl rfl rfl ?_
      refine Ops.ex (Ex.not rfl) rfl rfl rfl ?_
      refine Ops.nil ?_
      refine Run.cond rfl (fun hc => ?_) (fun hc => ?_)
      · replace hf := ifFb (bn_T hc) hf
        refine Run.seq ?_
        refine Run.region ?_
        refine Ops.ex (Ex.assign rfl) rfl rfl rfl ?_
        refine Ops.ex (Ex.assign rfl) rfl rfl rfl ?_
        refine Ops.nil ?_
        obtain rfl := Option.some.inj hf
        exact Run.retV [.map none, vi 6] rfl ⟨rfl, rfl, trivial⟩ ⟨z678, none, rfl, hy680_0, (Mz.nil _ _ _), (St.forget (St.forget (St.forget (St.forget hst689 4) 3) 2) 1)⟩
      · replace hf := ifTb (bn_F hc) hf
        refine Run.skip ?_
        refine Run.region ?_
        refine Ops.ex (Ex.move rfl) rfl rfl rfl ?_
        refine Ops.ex (Ex.move rfl) rfl rfl rfl ?_
        refine Ops.mdelO (s := a517) 2 hst689 rfl f679 rfl rfl rfl rfl Try.underlying55 Try.underlying9 (fun E690 w690 f690 hst690 => ?_)
        refine Ops.nil ?_
        refine Run.endBlk ?_
        refine Run.region ?_
        refine Ops.ex (Ex.add rfl rfl) rfl rfl rfl ?_
        refine Ops.ex (Ex.move rfl) rfl rfl rfl ?_
        refine Ops.nil ?_
        refine Run.re 33 rfl (congrArg vi (wr_succ' hl517 hc517)) ?_
        exact Run.sub (by exact subB_spec ⟨rfl, rfl, rfl, rfl, rfl, rfl, trivial⟩) (Run.stop ⟨p2.Drop.length - (i517 + 1), by omega, i517 + 1, (mdel mp679 a517), g679, E690, c679, z678, rfl, by omega, (hnxb517 _).symm.trans hf, rfl, hz680, hy680_0, f690, (St.forget hst690 1)⟩)
    · replace hf := forL_out hf (nlt_of_dec hc)
      try dsimp only at hf
      refine Run.exit _ rfl ?_
      refine Run.seq ?_
      refine Run.seq ?_
      refine Run.region ?_
      refine Ops.ex (Ex.fieldAddr rfl Try.underlying29 rfl sz26) rfl rfl rfl ?_
      refine Ops.load rfl Try.underlying26 rfl (hst680.cell (i := 3) rfl rfl) rfl ?_
      refine Ops.ex (Ex.len' rfl rfl rfl Try.underlying26) rfl rfl rfl ?_
      refine Ops.ex (Ex.move rfl) rfl rfl rfl ?_
      refine Ops.nil ?_
      refine Run.block ?_
      have hc691 := f3.cap
      have hm692 := Le.refl z678
      refine Run.sub (e' := [(1, vi p1), (5, .pointer (some ⟨g6, 0, none⟩)), (8, .map (some g679)), (49, .slice A3 p2.Add.length c3), (50, vi (p2.Add.length : Int)), (51, vi ((0 : Nat) : Int))]) (subB_spec ⟨rfl, rfl, rfl, rfl, rfl, rfl, trivial⟩) ?_
      refine Run.loop (fun mb691 => (fun e' w' => ∃ (i691 : Nat) (mp737 : Mp apiRef) (g737 : Nat) (E737 : Array MapEntry) (c737 : Nat) (z736 : Zp), mb691 = p2.Add.length - i691 ∧ i691 ≤ p2.Add.length ∧ forL (go_law10_do.b3) (fun mp737 => if p2.Floor < p1 then (some ([], 8)) else (if 1048576 < p2.Floor then (some ([], 8)) else (some (mp737, 0)))) i691 (p2.Add.drop i691) mp737 = some r ∧ e' = [(1, vi p1), (5, .pointer (some ⟨g6, 0, none⟩)), (8, .map (some g737)), (49, .slice A3 p2.Add.length c3), (50, vi (p2.Add.length : Int)), (51, vi (i691 : Int))] ∧ Le z678 z736 ∧ Le z0 z736 ∧ Le z513 z736 ∧ Mr tapiRef pkA z736 E737 c737 mp737 ∧ Ht w0 (frz z736 :: (ob g737 (.map E737 c737)) :: (ob g8 (.mapIter M1 c8 q9 c8)) :: (blk g6 [.slice A3 p2.Add.length c3, .slice A4 p2.Drop.length c4, vi p2.Floor] 29) :: X) w')) p2.Add.length ⟨0, mp679, g679, E679, c679, z678, rfl, Nat.zero_le _, hf, rfl, hm692, hy680_0, hz680, f679, hst680⟩ ?_
      rintro _ e' w738 ⟨i691, mp737, g737, E737, c737, z736, rfl, hi691, hf, rfl, hz738, hy738_0, hy738_1, f737, hst738⟩
      replace f3 := f3.mono hz738; replace f4 := f4.mono hz738
      refine Run.seq ?_
      refine Run.region ?_
      refine Ops.ex (Ex.lss rfl rfl) rfl rfl rfl ?_
      refine Ops.nil ?_
      refine Run.seq ?_
      refine Run.cond rfl (fun hc => ?_) (fun hc => ?_)
      · have hl691 := lt_of_dec hc
        obtain ⟨a691, nxb691, ha691, hnxb691, hf⟩ := forL_in hf hl691
        unfold go_law10_do.b3 at hf
        try dsimp only at hf
        refine Run.skip ?_
        refine Run.seq ?_
        refine Run.block ?_
        refine Run.seq ?_
        refine Run.region ?_
        obtain ⟨g743, p743, o743, cs743, hA743, ho743, hr743, f743⟩ := SlH.elem f3.toH (atI_nat ha691)
        obtain rfl := hr743
        refine Ops.ex (Ex.ixA hA743 ho743 (atI_nat ha691) rfl rfl rfl Try.underlying26 sz24) rfl rfl rfl ?_
        refine Ops.loadAgg [vs a691.Name, vi a691.Kind, vi a691.From, vi a691.To] rfl Try.underlying24 rfl sz24 rfl (cells_of_zc rfl (f743.mono hst738.le)) rfl ?_
        refine Ops.allocF [vs [], vi 0, vi 0, vi 0] hst738 zr24 rfl rfl (fun g744 w744 hst744 => ?_)
        refine Ops.store 1 [vs a691.Name, vi a691.Kind, vi a691.From, vi a691.To] hst744 rfl rfl rfl rfl sz24 rfl (by simp [Value.oneCell']) (by simp) (fun w745 hst745 => ?_)
        refine Ops.nil ?_
        refine Run.seq ?_
        refine Run.seq ?_
        refine Run.region ?_
        refine Ops.loadAgg _ rfl Try.underlying24 rfl sz24 rfl (hst745.cells (i := 1) rfl 0 4) rfl ?_
        obtain ⟨y746, hy746, hf⟩ := bnd hf
        refine Ops.call rfl rfl Try.func14 (by kernel_rfl) (by kernel_rfl) rfl (go_law10_may.walk (p0 := a691) (hst := hst745) (hf := hy746)) ?_
        rintro _ w746 ⟨z746, rfl, hz746, hst746⟩
        refine ⟨_, rfl, ?_⟩
        replace f3 := f3.mono hz746; replace f743 := f743.mono hz746; replace f737 := f737.mono hz746; replace f4 := f4.mono hz746
        replace hy738_0 := hy738_0.trans hz746
        replace hy738_1 := hy738_1.trans hz746
        replace hz738 := hz738.trans hz746
        refine Ops.ex (Ex.not rfl) rfl rfl rfl ?_
        refine Ops.nil ?_
        refine Run.cond rfl (fun hc => ?_) (fun hc => ?_)
        · replace hf := ifFb (bn_T hc) hf
          refine Run.seq ?_
          refine Run.region ?_
          refine Ops.ex (Ex.assign rfl) rfl rfl rfl ?_
          refine Ops.ex (Ex.assign rfl) rfl rfl rfl ?_
          refine Ops.nil ?_
          obtain rfl := Option.some.inj hf
          exact Run.retV [.map none, vi 14] rfl ⟨rfl, rfl, trivial⟩ ⟨z746, none, rfl, hy738_0, (Mz.nil _ _ _), (St.forget (St.forget (St.forget (St.forget hst746 4) 3) 2) 1)⟩
        · replace hf := ifTb (bn_F hc) hf
          refine Run.skip ?_
          refine Run.seq ?_
          refine Run.seq ?_
          refine Run.region ?_
          refine Ops.ex (Ex.move rfl) rfl rfl rfl ?_
          refine Ops.ex (Ex.fieldAddr rfl Try.underlying24 rfl sz9) rfl rfl rfl ?_
          refine Ops.load rfl Try.underlying9 rfl (hst746.cell (i := 1) rfl rfl) rfl ?_
          refine Ops.mlook (zcs := [vs [], vi 0, vi 0, vi 0]) (s := a691.Name) (⟨[], 0, 0, 0⟩ : apiRef) (Mr.own f737 hst746 (i := 2) rfl) rfl rfl Try.underlying55 Try.underlying9 zr24 rfl rfl (fun cs748 hR748 => ?_)
          obtain rfl := hR748
          refine Ops.ex (Ex.move rfl) rfl rfl rfl ?_
          refine Ops.ex (Ex.extract rfl rfl) rfl rfl rfl ?_
          refine Ops.ex (Ex.extract rfl rfl) rfl rfl rfl ?_
          refine Ops.allocF [vs [], vi 0, vi 0, vi 0] hst746 zr24 rfl rfl (fun g753 w753 hst753 => ?_)
          refine Ops.store 1 [vs (((mget mp737 a691.Name).getD (⟨[], 0, 0, 0⟩ : apiRef)).Name), vi (((mget mp737 a691.Name).getD (⟨[], 0, 0, 0⟩ : apiRef)).Kind), vi (((mget mp737 a691.Name).getD (⟨[], 0, 0, 0⟩ : apiRef)).From), vi (((mget mp737 a691.Name).getD (⟨[], 0, 0, 0⟩ : apiRef)).To)] hst753 rfl rfl rfl rfl sz24 rfl (by simp [Value.oneCell']) (by simp) (fun w754 hst754 => ?_)
          refine Ops.ex (Ex.assign rfl) rfl rfl rfl ?_
          refine Ops.nil ?_
          refine Run.seq ?_
          refine Run.region ?_
          refine Ops.ex (Ex.move rfl) rfl rfl rfl ?_
          refine Ops.nil ?_
          refine Run.cond rfl (fun hc => ?_) (fun hc => ?_)
          · replace hf := ifTb hc hf
            refine Run.seq ?_
            refine Run.region ?_
            refine Ops.ex (Ex.assign rfl) rfl rfl rfl ?_
            refine Ops.ex (Ex.assign rfl) rfl rfl rfl ?_
            refine Ops.nil ?_
            obtain rfl := Option.some.inj hf
            exact Run.retV [.map none, vi 5] rfl ⟨rfl, rfl, trivial⟩ ⟨z746, none, rfl, hy738_0, (Mz.nil _ _ _), (St.forget (St.forget (St.forget (St.forget (St.forget hst754 5) 4) 3) 2) 1)⟩
          · replace hf := ifFb hc hf
            refine Run.skip ?_
            refine Run.region ?_
            refine Ops.ex (Ex.move rfl) rfl rfl rfl ?_
            refine Ops.ex (Ex.fieldAddr rfl Try.underlying24 rfl sz9) rfl rfl rfl ?_
            refine Ops.load rfl Try.underlying9 rfl (hst754.cell (i := 2) rfl rfl) rfl ?_
            refine Ops.loadAgg _ rfl Try.underlying24 rfl sz24 rfl (hst754.cells (i := 2) rfl 0 4) rfl ?_
            refine Ops.mputO (s := a691.Name) (a := a691) (cs := [vs a691.Name, vi a691.Kind, vi a691.From, vi a691.To]) 3 hst754 rfl f737 rfl rfl rfl rfl Try.underlying55 Try.underlying9 (fun E755 c755 w755 f755 hst755 => ?_)
            refine Ops.nil ?_
            refine Run.endBlk ?_
            refine Run.region ?_
            refine Ops.ex (Ex.add rfl rfl) rfl rfl rfl ?_
            refine Ops.ex (Ex.move rfl) rfl rfl rfl ?_
            refine Ops.nil ?_
            refine Run.re 51 rfl (congrArg vi (wr_succ' hl691 hc691)) ?_
            exact Run.sub (by exact subB_spec ⟨rfl, rfl, rfl, rfl, rfl, rfl, trivial⟩) (Run.stop ⟨p2.Add.length - (i691 + 1), by omega, i691 + 1, (mput mp737 a691.Name a691), g737, E755, c755, z746, rfl, by omega, (hnxb691 _).symm.trans hf, rfl, hz738, hy738_0, hy738_1, f755, (St.forget (St.forget hst755 2) 1)⟩)
      · replace hf := forL_out hf (nlt_of_dec hc)
        try dsimp only at hf
        refine Run.exit _ rfl ?_
        refine Run.seq ?_
        refine Run.seq ?_
        refine Run.region ?_
        refine Ops.ex (Ex.fieldAddr rfl Try.underlying29 rfl sz3) rfl rfl rfl ?_
        refine Ops.load rfl Try.underlying3 rfl (hst738.cell (i := 3) rfl rfl) rfl ?_
        refine Ops.ex (Ex.move rfl) rfl rfl rfl ?_
        refine Ops.ex (Ex.lss rfl rfl) rfl rfl rfl ?_
        refine Ops.ex (Ex.move rfl) rfl rfl rfl ?_
        refine Ops.case 75 rfl (fun hc => ?_) (fun hc => ?_)
        · replace hf := ifT (dec_T hc) hf
          refine Ops.off rfl rfl ?_
          refine Ops.off rfl rfl ?_
          refine Ops.off rfl rfl ?_
          refine Ops.ex (Ex.pickT rfl rfl) rfl rfl rfl ?_
          refine Ops.nil ?_
          refine Run.condT rfl rfl ?_
          refine Run.seq ?_
          refine Run.region ?_
          refine Ops.ex (Ex.assign rfl) rfl rfl rfl ?_
          refine Ops.ex (Ex.assign rfl) rfl rfl rfl ?_
          refine Ops.nil ?_
          obtain rfl := Option.some.inj hf
          exact Run.retV [.map none, vi 8] rfl ⟨rfl, rfl, trivial⟩ ⟨z736, none, rfl, hy738_0, (Mz.nil _ _ _), (St.forget (St.forget (St.forget hst738 3) 2) 1)⟩
        · replace hf := ifF (dec_F hc) hf
          refine Ops.on rfl ?_
          refine Ops.ex (Ex.fieldAddr rfl Try.underlying29 rfl sz3) rfl rfl rfl ?_
          refine Ops.on rfl ?_
          refine Ops.load rfl Try.underlying3 rfl (hst738.cell (i := 3) rfl rfl) rfl ?_
          refine Ops.on rfl ?_
          refine Ops.ex (Ex.gtr rfl rfl) rfl rfl rfl ?_
          refine Ops.ex (Ex.pickF rfl rfl) rfl rfl rfl ?_
          refine Ops.nil ?_
          refine Run.cond rfl (fun hc => ?_) (fun hc => ?_)
          · replace hf := ifT (dec_T hc) hf
            refine Run.seq ?_
            refine Run.region ?_
            refine Ops.ex (Ex.assign rfl) rfl rfl rfl ?_
            refine Ops.ex (Ex.assign rfl) rfl rfl rfl ?_
            refine Ops.nil ?_
            obtain rfl := Option.some.inj hf
            exact Run.retV [.map none, vi 8] rfl ⟨rfl, rfl, trivial⟩ ⟨z736, none, rfl, hy738_0, (Mz.nil _ _ _), (St.forget (St.forget (St.forget hst738 3) 2) 1)⟩
          · replace hf := ifF (dec_F hc) hf
            refine Run.skip ?_
            refine Run.seq ?_
            refine Run.region ?_
            refine Ops.ex (Ex.move rfl) rfl rfl rfl ?_
            refine Ops.ex (Ex.assign rfl) rfl rfl rfl ?_
            refine Ops.ex (Ex.assign rfl) rfl rfl rfl ?_
            refine Ops.nil ?_
            obtain ⟨z756, hz756, f756, hst756⟩ := St.freezeM hst738 f737
            replace f3 := f3.mono hz756; replace f4 := f4.mono hz756
            replace hy738_0 := hy738_0.trans hz756
            replace hy738_1 := hy738_1.trans hz756
            replace hz738 := hz738.trans hz756
            obtain rfl := Option.some.inj hf
            exact Run.retV [.map (some g737), vi 0] rfl ⟨rfl, rfl, trivial⟩ ⟨z756, (some g737), rfl, hy738_0, f756, (St.forget (St.forget hst756 2) 1)⟩
  · obtain rfl := hR516
    obtain ⟨nxb9, hnxb9, hf⟩ := forN_cons hf hsr9 ham
    unfold go_law10_do.b1 at hf
    try dsimp only at hf
    replace hst516 : Ht w0 (frz z513 :: (ob g514 (.map E514 c514)) :: (ob g8 (.mapIter M1 c8 q516 c8)) :: (blk g6 [.slice A3 p2.Add.length c3, .slice A4 p2.Drop.length c4, vi p2.Floor] 29) :: X) _ := hst516
    refine Ops.ex (Ex.extract rfl rfl) rfl rfl rfl ?_
    refine Ops.nil ?_
    refine Run.seq ?_
    refine Run.condT rfl rfl ?_
    refine Run.skip ?_
    refine Run.block ?_
    refine Run.seq ?_
    refine Run.region ?_
    refine Ops.mentry (i := 2) hst516 rfl hC516 rfl rfl ?_
    refine Ops.ex (Ex.extract rfl rfl) rfl rfl rfl ?_
    refine Ops.ex (Ex.extract rfl rfl) rfl rfl rfl ?_
    refine Ops.allocF [vs [], vi 0, vi 0, vi 0] hst516 zr24 rfl rfl (fun g761 w761 hst761 => ?_)
    refine Ops.ex (Ex.assign rfl) rfl rfl rfl ?_
    refine Ops.store 1 [vs a9.2.Name, vi a9.2.Kind, vi a9.2.From, vi a9.2.To] hst761 rfl rfl rfl rfl sz24 rfl (by simp [Value.oneCell']) (by simp) (fun w762 hst762 => ?_)
    refine Ops.nil ?_
    refine Run.region ?_
    refine Ops.ex (Ex.move rfl) rfl rfl rfl ?_
    refine Ops.ex (Ex.move rfl) rfl rfl rfl ?_
    refine Ops.loadAgg _ rfl Try.underlying24 rfl sz24 rfl (hst762.cells (i := 1) rfl 0 4) rfl ?_
    refine Ops.mputO (s := a9.1) (a := a9.2) (cs := [vs a9.2.Name, vi a9.2.Kind, vi a9.2.From, vi a9.2.To]) 2 hst762 rfl f514 rfl rfl rfl rfl Try.underlying55 Try.underlying9 (fun E763 c763 w763 f763 hst763 => ?_)
    refine Ops.nil ?_
    refine Run.endBlk ?_
    exact Run.sub (by exact subB_spec ⟨rfl, rfl, rfl, rfl, trivial⟩) (Run.stop ⟨(mdel mp9 a9.1).length, (by have := mdel_len hsr9 ham; omega), (mdel mp9 a9.1), (mput mp514 a9.1 a9.2), g514, E763, c763, q516, z513, rfl, (hnxb9 _).symm.trans hf, rfl, hz515, f763, hM516, (St.forget hst763 1)⟩)
def go_law10_Shows.b1 (p0 : editsSet) (p1 : Mp apiRef) (i6 : Nat) (a6 : apiRef) : Unit → (Unit → Option Bool) → Option Bool :=
  fun _ nxb6 => if (mget p1 a6.Name).isSome then (if ((mget p1 a6.Name).getD (⟨[], 0, 0, 0⟩ : apiRef)) = a6 then (if 0 < (i6 : Int) then ((atI p0.Refs (wr ((i6 : Int) - 1))).bind fun y74 => if !ltT y74.Name a6.Name then (some false) else (nxb6 ())) else (nxb6 ())) else (some false)) else (some false)
def go_law10_Shows (p0 : editsSet) (p1 : Mp apiRef) (p2 : Int) : Option Bool :=
  forL (go_law10_Shows.b1 p0 p1) (fun _ => if (p0.Refs.length : Int) = (p1.length : Int) then (some (decide (p0.Floor = p2))) else (some false)) 0 p0.Refs ()
set_option maxRecDepth 100000 in
set_option maxHeartbeats 4000000 in
theorem go_law10_Shows.walk {w0 w : World} {X : List Res} {z0 : Zp} {p0 : editsSet} {A1 : Option Addr} {c1 : Nat} {p1 : Mp apiRef} {M3 : Option Nat} {p2 : Int} {r : Bool} (hst : Ht w0 (frz z0 :: X) w) (f1 : Sl tapiRef z0 A1 c1 p0.Refs) (f3 : Mz tapiRef pkA z0 M3 p1) (hf : go_law10_Shows p0 p1 p2 = some r) :
    Calls Try.prog 23 #[.agg #[.slice A1 p0.Refs.length c1, vi p0.Floor], .map M3, vi p2] w fun e w' => ∃ (z' : Zp), e = .returned (vb r) ∧ Le z0 z' ∧ Ht w0 (frz z' :: X) w' := by
  refine calls_np Try.func23 rfl rfl ?_
  have hle0 := Le.refl z0
  unfold go_law10_Shows at hf
  refine Run.seq ?_
  refine Run.region ?_
  refine Ops.boxF [.slice A1 p0.Refs.length c1, vi p0.Floor] hst rfl rfl rfl (fun g5 w5 hst5 => ?_)
  refine Ops.ex (Ex.assign rfl) rfl rfl rfl ?_
  refine Ops.nil ?_
  refine Run.seq ?_
  refine Run.seq ?_
  refine Run.region ?_
  refine Ops.ex (Ex.fieldAddr rfl Try.underlying38 rfl sz26) rfl rfl rfl ?_
  refine Ops.load rfl Try.underlying26 rfl (hst5.cell (i := 1) rfl rfl) rfl ?_
  refine Ops.ex (Ex.len' rfl rfl rfl Try.underlying26) rfl rfl rfl ?_
  refine Ops.ex (Ex.move rfl) rfl rfl rfl ?_
  refine Ops.nil ?_
  refine Run.block ?_
  have hc6 := f1.cap
  refine Run.sub (e' := [(1, .map M3), (2, vi p2), (3, .pointer (some ⟨g5, 0, none⟩)), (12, .slice A1 p0.Refs.length c1), (13, vi (p0.Refs.length : Int)), (14, vi ((0 : Nat) : Int))]) (subB_spec ⟨rfl, rfl, rfl, rfl, rfl, rfl, trivial⟩) ?_
  refine Run.loop (fun mb6 => (fun e' w' => ∃ (i6 : Nat) (z56 : Zp), mb6 = p0.Refs.length - i6 ∧ i6 ≤ p0.Refs.length ∧ forL (go_law10_Shows.b1 p0 p1) (fun _ => if (p0.Refs.length : Int) = (p1.length : Int) then (some (decide (p0.Floor = p2))) else (some false)) i6 (p0.Refs.drop i6) () = some r ∧ e' = [(1, .map M3), (2, vi p2), (3, .pointer (some ⟨g5, 0, none⟩)), (12, .slice A1 p0.Refs.length c1), (13, vi (p0.Refs.length : Int)), (14, vi (i6 : Int))] ∧ Le z0 z56 ∧ Ht w0 (frz z56 :: (blk g5 [.slice A1 p0.Refs.length c1, vi p0.Floor] 38) :: X) w')) p0.Refs.length ⟨0, z0, rfl, Nat.zero_le _, hf, rfl, hle0, hst5⟩ ?_
  rintro _ e' w57 ⟨i6, z56, rfl, hi6, hf, rfl, hz57, hst57⟩
  replace f3 := f3.mono hz57; replace f1 := f1.mono hz57
  refine Run.seq ?_
  refine Run.region ?_
  refine Ops.ex (Ex.lss rfl rfl) rfl rfl rfl ?_
  refine Ops.nil ?_
  refine Run.seq ?_
  refine Run.cond rfl (fun hc => ?_) (fun hc => ?_)
  · have hl6 := lt_of_dec hc
    obtain ⟨a6, nxb6, ha6, hnxb6, hf⟩ := forL_in hf hl6
    unfold go_law10_Shows.b1 at hf
    try dsimp only at hf
    refine Run.skip ?_
    refine Run.seq ?_
    refine Run.block ?_
    refine Run.seq ?_
    refine Run.region ?_
    refine Ops.ex (Ex.move rfl) rfl rfl rfl ?_
    obtain ⟨g62, p62, o62, cs62, hA62, ho62, hr62, f62⟩ := SlH.elem f1.toH (atI_nat ha6)
    obtain rfl := hr62
    refine Ops.ex (Ex.ixA hA62 ho62 (atI_nat ha6) rfl rfl rfl Try.underlying26 sz24) rfl rfl rfl ?_
    refine Ops.loadAgg [vs a6.Name, vi a6.Kind, vi a6.From, vi a6.To] rfl Try.underlying24 rfl sz24 rfl (cells_of_zc rfl (f62.mono hst57.le)) rfl ?_
    refine Ops.allocF [vs [], vi 0, vi 0, vi 0] hst57 zr24 rfl rfl (fun g63 w63 hst63 => ?_)
    refine Ops.ex (Ex.assign rfl) rfl rfl rfl ?_
    refine Ops.store 1 [vs a6.Name, vi a6.Kind, vi a6.From, vi a6.To] hst63 rfl rfl rfl rfl sz24 rfl (by simp [Value.oneCell']) (by simp) (fun w64 hst64 => ?_)
    refine Ops.nil ?_
    refine Run.seq ?_
    refine Run.region ?_
    refine Ops.ex (Ex.move rfl) rfl rfl rfl ?_
    refine Ops.ex (Ex.fieldAddr rfl Try.underlying24 rfl sz9) rfl rfl rfl ?_
    refine Ops.load rfl Try.underlying9 rfl (hst64.cell (i := 1) rfl rfl) rfl ?_
    refine Ops.mlook (zcs := [vs [], vi 0, vi 0, vi 0]) (s := a6.Name) (⟨[], 0, 0, 0⟩ : apiRef) (Mz.at_ f3 hst64) rfl rfl Try.underlying55 Try.underlying9 zr24 rfl rfl (fun cs65 hR65 => ?_)
    obtain rfl := hR65
    refine Ops.ex (Ex.move rfl) rfl rfl rfl ?_
    refine Ops.ex (Ex.extract rfl rfl) rfl rfl rfl ?_
    refine Ops.ex (Ex.extract rfl rfl) rfl rfl rfl ?_
    refine Ops.allocF [vs [], vi 0, vi 0, vi 0] hst64 zr24 rfl rfl (fun g70 w70 hst70 => ?_)
    refine Ops.store 1 [vs (((mget p1 a6.Name).getD (⟨[], 0, 0, 0⟩ : apiRef)).Name), vi (((mget p1 a6.Name).getD (⟨[], 0, 0, 0⟩ : apiRef)).Kind), vi (((mget p1 a6.Name).getD (⟨[], 0, 0, 0⟩ : apiRef)).From), vi (((mget p1 a6.Name).getD (⟨[], 0, 0, 0⟩ : apiRef)).To)] hst70 rfl rfl rfl rfl sz24 rfl (by simp [Value.oneCell']) (by simp) (fun w71 hst71 => ?_)
    refine Ops.ex (Ex.assign rfl) rfl rfl rfl ?_
    refine Ops.nil ?_
    refine Run.seq ?_
    have hm73 := Le.refl z56
    refine Run.drawH [([], fun w => ∃ ζ Y, Le z56 ζ ∧ Ht w0 (frz ζ :: (blk g70 [vs (((mget p1 a6.Name).getD (⟨[], 0, 0, 0⟩ : apiRef)).Name), vi (((mget p1 a6.Name).getD (⟨[], 0, 0, 0⟩ : apiRef)).Kind), vi (((mget p1 a6.Name).getD (⟨[], 0, 0, 0⟩ : apiRef)).From), vi (((mget p1 a6.Name).getD (⟨[], 0, 0, 0⟩ : apiRef)).To)] 24) :: (blk g63 [vs a6.Name, vi a6.Kind, vi a6.From, vi a6.To] 24) :: (blk g5 [.slice A1 p0.Refs.length c1, vi p0.Floor] 38) :: Y) w)] (by kernel_rfl) hst71 (fun w72 hst72 => ?_)
    have hS0 := (⟨_, _, (Le.refl _), (St.up (St.up (St.up (St.up hst72 3 rfl) 3 rfl) 3 rfl) 3 rfl)⟩ : (fun w => ∃ ζ Y, Le z56 ζ ∧ Ht w0 (frz ζ :: (blk g70 [vs (((mget p1 a6.Name).getD (⟨[], 0, 0, 0⟩ : apiRef)).Name), vi (((mget p1 a6.Name).getD (⟨[], 0, 0, 0⟩ : apiRef)).Kind), vi (((mget p1 a6.Name).getD (⟨[], 0, 0, 0⟩ : apiRef)).From), vi (((mget p1 a6.Name).getD (⟨[], 0, 0, 0⟩ : apiRef)).To)] 24) :: (blk g63 [vs a6.Name, vi a6.Kind, vi a6.From, vi a6.To] 24) :: (blk g5 [.slice A1 p0.Refs.length c1, vi p0.Floor] 38) :: Y) w) _)
    refine Any.takeE 0 rfl rfl rfl rfl (by kernel_rfl) (fun _ _ _ _ _ h => h) ((Ex.move rfl).s) ?_
    refine Any.takeE 1 rfl rfl rfl rfl (by kernel_rfl) (fun _ _ _ _ _ h => h) ((Ex.not rfl).s) ?_
    refine Any.takeE 2 rfl rfl rfl rfl (by kernel_rfl) (fun _ _ _ _ _ h => h) ((Ex.move rfl).s) ?_
    refine Any.case 28 rfl (fun hc => ?_) (fun hc => ?_)
    · replace hf := ifFb (bn_T hc) hf
      refine Any.pass 3 rfl rfl rfl rfl (by kernel_rfl) (fun _ _ _ _ _ h => h) ?_
      refine Any.pass 4 rfl rfl rfl rfl (by kernel_rfl) (fun _ _ _ _ _ h => h) ?_
      refine Any.pass 5 rfl rfl rfl rfl (by kernel_rfl) (fun _ _ _ _ _ h => h) ?_
      refine Any.takeE 6 rfl rfl rfl rfl (by kernel_rfl) (fun _ _ _ _ _ h => h) ((Ex.pickT rfl rfl).s) ?_
      refine Any.takeE 7 rfl rfl rfl rfl (by kernel_rfl) (fun _ _ _ _ _ h => h) ((Ex.move rfl).s) ?_
      refine Any.pass 8 rfl rfl rfl rfl (by kernel_rfl) (fun _ _ _ _ _ h => h) ?_
      refine Any.pass 9 rfl rfl rfl rfl (by kernel_rfl) (fun _ _ _ _ _ h => h) ?_
      refine Any.pass 10 rfl rfl rfl rfl (by kernel_rfl) (fun _ _ _ _ _ h => h) ?_
      refine Any.passU 11 rfl rfl rfl rfl rfl (by kernel_rfl) (fun _ _ _ _ _ h => h) ?_
      refine Any.passU 12 rfl rfl rfl rfl rfl (by kernel_rfl) (fun _ _ _ _ _ h => h) ?_
      refine Any.passU 13 rfl rfl rfl rfl rfl (by kernel_rfl) (fun _ _ _ _ _ h => h) ?_
      refine Any.passU 14 rfl rfl rfl rfl rfl (by kernel_rfl) (fun _ _ _ _ _ h => h) ?_
      refine Any.passU 15 rfl rfl rfl rfl rfl (by kernel_rfl) (fun _ _ _ _ _ h => h) ?_
      refine Any.passU 16 rfl rfl rfl rfl rfl (by kernel_rfl) (fun _ _ _ _ _ h => h) ?_
      refine Any.passU 17 rfl rfl rfl rfl rfl (by kernel_rfl) (fun _ _ _ _ _ h => h) ?_
      refine Any.passU 18 rfl rfl rfl rfl rfl (by kernel_rfl) (fun _ _ _ _ _ h => h) ?_
      refine Any.passU 19 rfl rfl rfl rfl rfl (by kernel_rfl) (fun _ _ _ _ _ h => h) ?_
      refine Any.passU 20 rfl rfl rfl rfl rfl (by kernel_rfl) (fun _ _ _ _ _ h => h) ?_
      refine Any.pass 21 rfl rfl rfl rfl (by kernel_rfl) (fun _ _ _ _ _ h => h) ?_
      refine Any.takeE 22 rfl rfl rfl rfl (by kernel_rfl) (fun _ _ _ _ _ h => h) ((Ex.pickT rfl rfl).s) ?_
      refine Any.done (by kernel_rfl) ?_
      refine Run.condT rfl rfl ?_
      refine Run.seq ?_
      refine Run.region ?_
      refine Ops.ex (Ex.assign rfl) rfl rfl rfl ?_
      refine Ops.nil ?_
      obtain rfl := Option.some.inj hf
      exact Run.retV [vb false] rfl ⟨rfl, trivial⟩ ⟨z56, rfl, hz57, (St.forget (St.forget (St.forget hst72 3) 2) 1)⟩
    · replace hf := ifTb (bn_F hc) hf
      refine Any.take 0 3 rfl rfl rfl rfl rfl (by kernel_rfl) (fun _ _ _ _ _ h => h) (ExS.g (ExS.loadAgg [vs (((mget p1 a6.Name).getD (⟨[], 0, 0, 0⟩ : apiRef)).Name), vi (((mget p1 a6.Name).getD (⟨[], 0, 0, 0⟩ : apiRef)).Kind), vi (((mget p1 a6.Name).getD (⟨[], 0, 0, 0⟩ : apiRef)).From), vi (((mget p1 a6.Name).getD (⟨[], 0, 0, 0⟩ : apiRef)).To)] rfl Try.underlying24 rfl sz24 rfl (fun w hS => by obtain ⟨_, _, _, hs⟩ := hS; exact hs.cells (i := 1) rfl 0 4))) hS0 ?_
      refine Any.take 0 4 rfl rfl rfl rfl rfl (by kernel_rfl) (fun _ _ _ _ _ h => h) (ExS.g (ExS.loadAgg [vs a6.Name, vi a6.Kind, vi a6.From, vi a6.To] rfl Try.underlying24 rfl sz24 rfl (fun w hS => by obtain ⟨_, _, _, hs⟩ := hS; exact hs.cells (i := 2) rfl 0 4))) hS0 ?_
      refine Any.takeE 5 rfl rfl rfl rfl (by kernel_rfl) (fun _ _ _ _ _ h => h) (ExS.g ((Ex.neqV rfl rfl (eqv24 9998 ((mget p1 a6.Name).getD (⟨[], 0, 0, 0⟩ : apiRef)) a6) (by kernel_rfl)).s)) ?_
      refine Any.takeE 6 rfl rfl rfl rfl (by kernel_rfl) (fun _ _ _ _ _ h => h) ((Ex.pickF rfl rfl).s) ?_
      refine Any.takeE 7 rfl rfl rfl rfl (by kernel_rfl) (fun _ _ _ _ _ h => h) ((Ex.move rfl).s) ?_
      refine Any.case 33 rfl (fun hc => ?_) (fun hc => ?_)
      · replace hf := ifF (neq_T hc) hf
        refine Any.pass 8 rfl rfl rfl rfl (by kernel_rfl) (fun _ _ _ _ _ h => h) ?_
        refine Any.pass 9 rfl rfl rfl rfl (by kernel_rfl) (fun _ _ _ _ _ h => h) ?_
        refine Any.pass 10 rfl rfl rfl rfl (by kernel_rfl) (fun _ _ _ _ _ h => h) ?_
        refine Any.passU 11 rfl rfl rfl rfl rfl (by kernel_rfl) (fun _ _ _ _ _ h => h) ?_
        refine Any.passU 12 rfl rfl rfl rfl rfl (by kernel_rfl) (fun _ _ _ _ _ h => h) ?_
        refine Any.passU 13 rfl rfl rfl rfl rfl (by kernel_rfl) (fun _ _ _ _ _ h => h) ?_
        refine Any.passU 14 rfl rfl rfl rfl rfl (by kernel_rfl) (fun _ _ _ _ _ h => h) ?_
        refine Any.passU 15 rfl rfl rfl rfl rfl (by kernel_rfl) (fun _ _ _ _ _ h => h) ?_
        refine Any.passU 16 rfl rfl rfl rfl rfl (by kernel_rfl) (fun _ _ _ _ _ h => h) ?_
        refine Any.passU 17 rfl rfl rfl rfl rfl (by kernel_rfl) (fun _ _ _ _ _ h => h) ?_
        refine Any.passU 18 rfl rfl rfl rfl rfl (by kernel_rfl) (fun _ _ _ _ _ h => h) ?_
        refine Any.passU 19 rfl rfl rfl rfl rfl (by kernel_rfl) (fun _ _ _ _ _ h => h) ?_
        refine Any.passU 20 rfl rfl rfl rfl rfl (by kernel_rfl) (fun _ _ _ _ _ h => h) ?_
        refine Any.pass 21 rfl rfl rfl rfl (by kernel_rfl) (fun _ _ _ _ _ h => h) ?_
        refine Any.takeE 22 rfl rfl rfl rfl (by kernel_rfl) (fun _ _ _ _ _ h => h) ((Ex.pickT rfl rfl).s) ?_
        refine Any.done (by kernel_rfl) ?_
        refine Run.condT rfl rfl ?_
        refine Run.seq ?_
        refine Run.region ?_
        refine Ops.ex (Ex.assign rfl) rfl rfl rfl ?_
        refine Ops.nil ?_
        obtain rfl := Option.some.inj hf
        exact Run.retV [vb false] rfl ⟨rfl, trivial⟩ ⟨z56, rfl, hz57, (St.forget (St.forget (St.forget hst72 3) 2) 1)⟩
      · replace hf := ifT (neq_F hc) hf
        refine Any.takeE 8 rfl rfl rfl rfl (by kernel_rfl) (fun _ _ _ _ _ h => h) (ExS.g ((Ex.move rfl).s)) ?_
        refine Any.takeE 9 rfl rfl rfl rfl (by kernel_rfl) (fun _ _ _ _ _ h => h) (ExS.g ((Ex.gtr rfl rfl).s)) ?_
        refine Any.takeE 10 rfl rfl rfl rfl (by kernel_rfl) (fun _ _ _ _ _ h => h) (ExS.g ((Ex.move rfl).s)) ?_
        refine Any.case 36 rfl (fun hc => ?_) (fun hc => ?_)
        · replace hf := ifT (dec_T hc) hf
          refine Any.takeE 11 rfl rfl rfl rfl (by kernel_rfl) (fun _ _ _ _ _ h => h) (ExS.g ((Ex.fieldAddr rfl Try.underlying38 rfl sz26).s)) ?_
          refine Any.take 0 12 rfl rfl rfl rfl rfl (by kernel_rfl) (fun _ _ _ _ _ h => h) (ExS.g (ExS.load rfl Try.underlying26 rfl (fun w hS => by obtain ⟨_, _, _, hs⟩ := hS; exact hs.cell (i := 3) rfl rfl))) hS0 ?_
          refine Any.takeE 13 rfl rfl rfl rfl (by kernel_rfl) (fun _ _ _ _ _ h => h) (ExS.g ((Ex.move rfl).s)) ?_
          refine Any.takeE 14 rfl rfl rfl rfl (by kernel_rfl) (fun _ _ _ _ _ h => h) (ExS.g ((Ex.sub rfl rfl).s)) ?_
          obtain ⟨y74, hy74, hf⟩ := bnd hf
          obtain ⟨g79, p79, o79, cs79, hA79, ho79, hr79, f79⟩ := SlH.elem f1.toH hy74
          obtain rfl := hr79
          refine Any.takeE 15 rfl rfl rfl rfl (by kernel_rfl) (fun _ _ _ _ _ h => h) (ExS.g ((Ex.ixA hA79 ho79 hy74 rfl rfl rfl Try.underlying26 sz24).s)) ?_
          refine Any.takeE 16 rfl rfl rfl rfl (by kernel_rfl) (fun _ _ _ _ _ h => h) (ExS.g ((Ex.fieldAddr rfl Try.underlying24 rfl sz9).s)) ?_
          refine Any.take 0 17 rfl rfl rfl rfl rfl (by kernel_rfl) (fun _ _ _ _ _ h => h) (ExS.g (ExS.load rfl Try.underlying9 rfl (fun w hS => by obtain ⟨_, _, hz, hs⟩ := hS; exact (f79.mono (hz.trans hs.le)) 0 _ rfl))) hS0 ?_
          refine Any.takeE 18 rfl rfl rfl rfl (by kernel_rfl) (fun _ _ _ _ _ h => h) (ExS.g ((Ex.fieldAddr rfl Try.underlying24 rfl sz9).s)) ?_
          refine Any.take 0 19 rfl rfl rfl rfl rfl (by kernel_rfl) (fun _ _ _ _ _ h => h) (ExS.g (ExS.load rfl Try.underlying9 rfl (fun w hS => by obtain ⟨_, _, _, hs⟩ := hS; exact hs.cell (i := 2) rfl rfl))) hS0 ?_
          refine Any.takeE 20 rfl rfl rfl rfl (by kernel_rfl) (fun _ _ _ _ _ h => h) (ExS.g ((Ex.geqT rfl rfl).s)) ?_
          refine Any.takeE 21 rfl rfl rfl rfl (by kernel_rfl) (fun _ _ _ _ _ h => h) (ExS.g ((Ex.pickT rfl rfl).s)) ?_
          refine Any.takeE 22 rfl rfl rfl rfl (by kernel_rfl) (fun _ _ _ _ _ h => h) ((Ex.pickF rfl rfl).s) ?_
          refine Any.done (by kernel_rfl) ?_
          refine Run.cond rfl (fun hc => ?_) (fun hc => ?_)
          · replace hf := ifTb hc hf
            refine Run.seq ?_
            refine Run.region ?_
            refine Ops.ex (Ex.assign rfl) rfl rfl rfl ?_
            refine Ops.nil ?_
            obtain rfl := Option.some.inj hf
            exact Run.retV [vb false] rfl ⟨rfl, trivial⟩ ⟨z56, rfl, hz57, (St.forget (St.forget (St.forget hst72 3) 2) 1)⟩
          · replace hf := ifFb hc hf
            refine Run.skip ?_
            refine Run.endBlk ?_
            refine Run.region ?_
            refine Ops.ex (Ex.add rfl rfl) rfl rfl rfl ?_
            refine Ops.ex (Ex.move rfl) rfl rfl rfl ?_
            refine Ops.nil ?_
            refine Run.re 14 rfl (congrArg vi (wr_succ' hl6 hc6)) ?_
            exact Run.sub (by exact subB_spec ⟨rfl, rfl, rfl, rfl, rfl, rfl, trivial⟩) (Run.stop ⟨p0.Refs.length - (i6 + 1), by omega, i6 + 1, z56, rfl, by omega, (hnxb6 _).symm.trans hf, rfl, hz57, (St.forget (St.forget hst72 2) 1)⟩)
        · replace hf := ifF (dec_F hc) hf
          refine Any.pass 11 rfl rfl rfl rfl (by kernel_rfl) (fun _ _ _ _ _ h => h) ?_
          refine Any.pass 12 rfl rfl rfl rfl (by kernel_rfl) (fun _ _ _ _ _ h => h) ?_
          refine Any.pass 13 rfl rfl rfl rfl (by kernel_rfl) (fun _ _ _ _ _ h => h) ?_
          refine Any.pass 14 rfl rfl rfl rfl (by kernel_rfl) (fun _ _ _ _ _ h => h) ?_
          refine Any.pass 15 rfl rfl rfl rfl (by kernel_rfl) (fun _ _ _ _ _ h => h) ?_
          refine Any.pass 16 rfl rfl rfl rfl (by kernel_rfl) (fun _ _ _ _ _ h => h) ?_
          refine Any.pass 17 rfl rfl rfl rfl (by kernel_rfl) (fun _ _ _ _ _ h => h) ?_
          refine Any.pass 18 rfl rfl rfl rfl (by kernel_rfl) (fun _ _ _ _ _ h => h) ?_
          refine Any.pass 19 rfl rfl rfl rfl (by kernel_rfl) (fun _ _ _ _ _ h => h) ?_
          refine Any.pass 20 rfl rfl rfl rfl (by kernel_rfl) (fun _ _ _ _ _ h => h) ?_
          refine Any.takeE 21 rfl rfl rfl rfl (by kernel_rfl) (fun _ _ _ _ _ h => h) (ExS.g ((Ex.pickF rfl rfl).s)) ?_
          refine Any.takeE 22 rfl rfl rfl rfl (by kernel_rfl) (fun _ _ _ _ _ h => h) ((Ex.pickF rfl rfl).s) ?_
          refine Any.done (by kernel_rfl) ?_
          refine Run.condF rfl rfl ?_
          refine Run.skip ?_
          refine Run.endBlk ?_
          refine Run.region ?_
          refine Ops.ex (Ex.add rfl rfl) rfl rfl rfl ?_
          refine Ops.ex (Ex.move rfl) rfl rfl rfl ?_
          refine Ops.nil ?_
          refine Run.re 14 rfl (congrArg vi (wr_succ' hl6 hc6)) ?_
          exact Run.sub (by exact subB_spec ⟨rfl, rfl, rfl, rfl, rfl, rfl, trivial⟩) (Run.stop ⟨p0.Refs.length - (i6 + 1), by omega, i6 + 1, z56, rfl, by omega, (hnxb6 _).symm.trans hf, rfl, hz57, (St.forget (St.forget hst72 2) 1)⟩)
  · replace hf := forL_out hf (nlt_of_dec hc)
    try dsimp only at hf
    refine Run.exit _ rfl ?_
    refine Run.seq ?_
    refine Run.region ?_
    refine Ops.ex (Ex.fieldAddr rfl Try.underlying38 rfl sz26) rfl rfl rfl ?_
    refine Ops.load rfl Try.underlying26 rfl (hst57.cell (i := 1) rfl rfl) rfl ?_
    refine Ops.ex (Ex.len' rfl rfl rfl Try.underlying26) rfl rfl rfl ?_
    refine Ops.ex (Ex.move rfl) rfl rfl rfl ?_
    refine Ops.mlen (Mz.at_ f3 hst57) rfl rfl rfl Try.underlying55 rfl (?_)
    refine Ops.ex (Ex.eqlI rfl rfl) rfl rfl rfl ?_
    refine Ops.ex (Ex.move rfl) rfl rfl rfl ?_
    refine Ops.case 56 rfl (fun hc => ?_) (fun hc => ?_)
    · replace hf := ifT (dec_T hc) hf
      refine Ops.on rfl ?_
      refine Ops.ex (Ex.fieldAddr rfl Try.underlying38 rfl sz3) rfl rfl rfl ?_
      refine Ops.on rfl ?_
      refine Ops.load rfl Try.underlying3 rfl (hst57.cell (i := 1) rfl rfl) rfl ?_
      refine Ops.on rfl ?_
      refine Ops.ex (Ex.move rfl) rfl rfl rfl ?_
      refine Ops.on rfl ?_
      refine Ops.ex (Ex.eqlI rfl rfl) rfl rfl rfl ?_
      refine Ops.ex (Ex.pickT rfl rfl) rfl rfl rfl ?_
      refine Ops.ex (Ex.assign rfl) rfl rfl rfl ?_
      refine Ops.nil ?_
      obtain rfl := Option.some.inj hf
      exact Run.retV [vb (decide (p0.Floor = p2))] rfl ⟨rfl, trivial⟩ ⟨z56, rfl, hz57, (St.forget hst57 1)⟩
    · replace hf := ifF (dec_F hc) hf
      refine Ops.off rfl rfl ?_
      refine Ops.off rfl rfl ?_
      refine Ops.off rfl rfl ?_
      refine Ops.off rfl rfl ?_
      refine Ops.ex (Ex.pickF rfl rfl) rfl rfl rfl ?_
      refine Ops.ex (Ex.assign rfl) rfl rfl rfl ?_
      refine Ops.nil ?_
      obtain rfl := Option.some.inj hf
      exact Run.retV [vb false] rfl ⟨rfl, trivial⟩ ⟨z56, rfl, hz57, (St.forget hst57 1)⟩
end
end Go.Proofs.Ytjlhookdigbjhaa.E7
