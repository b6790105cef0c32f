/- Net: functions. -/
import Derived.Test.YtiijlkebolfcpaaProg
import Derived.Test.YtiijlkebolfcpaaGnG
namespace Go.Proofs.Ytiijlkebolfcpaa.N1
open Go Go.RowKit Go.Proofs.Ytiijlkebolfcpaa.Sx
set_option linter.unusedVariables false
set_option linter.unusedSimpArgs false
structure netNetint where
  wait_ : List Int
  lost_ : Int
  deriving DecidableEq
def tnetNetint : Ty netNetint where
  sz := 2
  R := fun ζ cs x => ∃ A0 c0, cs = [.slice A0 x.wait_.length c0, vi x.lost_] ∧ Sl tI ζ A0 c0 x.wait_
  len := by rintro ζ cs x ⟨A0, c0, rfl, f0⟩; rfl
  one := by
    rintro ζ cs x ⟨A0, c0, rfl, f0⟩ u hu
    simp only [List.mem_cons, List.not_mem_nil, or_false] at hu
    rcases hu with rfl | rfl <;> rfl
  mono := by rintro ζ ζ' cs x ⟨A0, c0, rfl, f0⟩ hl; exact ⟨A0, c0, rfl, f0.mono hl⟩
theorem sz41 : (Try.prog.info? 41).map (·.size) = some 1 := by kernel_rfl
theorem sz3 : (Try.prog.info? 3).map (·.size) = some 1 := by kernel_rfl
theorem inf3 : (Try.prog.info? 3).map (fun i => (i.zero, i.size, i.bytes)) = some (some (.int .i64 0), 1, 8) := by kernel_rfl
theorem zr3 : (Try.prog.info? 3).map (·.zero) = some (some (.int .i64 0)) := by kernel_rfl
theorem zr4 : (Try.prog.info? 4).map (·.zero) = some (some (.bool false)) := by kernel_rfl
theorem sz4 : (Try.prog.info? 4).map (·.size) = some 1 := by kernel_rfl
def go_net_Net_int_place (p0 : netNetint) (p1 : Int) : Option Int :=
  if (p0.wait_.length : Int) = 0 then (some (-1)) else ((nzI (p0.wait_.length : Int)).bind fun _ => (nzI (p0.wait_.length : Int)).bind fun _ => some (Int.tmod (wr ((Int.tmod p1 (p0.wait_.length : Int)) + (p0.wait_.length : Int))) (p0.wait_.length : Int)))
set_option maxRecDepth 100000 in
set_option maxHeartbeats 4000000 in
theorem go_net_Net_int_place.walk {w0 w : World} {X : List Res} {z0 : Zp} {p0 : netNetint} {g0 : Nat} {A1 : Option Addr} {c1 : Nat} {d1 : List Value} {p1 : Int} {r : Int} (hst : Ht w0 (frz z0 :: (blk g0 [.slice A1 p0.wait_.length c1, vi p0.lost_] 43) :: (orow 3 1 (.slice A1 p0.wait_.length c1) p0.wait_.length d1) :: X) w) (f1 : Cs tI z0 d1 p0.wait_) (hf : go_net_Net_int_place p0 p1 = some r) :
    Calls Try.prog 35 #[.pointer (some ⟨g0, 0, none⟩), vi p1] w fun e w' => ∃ (z' : Zp), e = .returned (vi r) ∧ Le z0 z' ∧ Ht w0 (frz z' :: (blk g0 [.slice A1 p0.wait_.length c1, vi p0.lost_] 43) :: (orow 3 1 (.slice A1 p0.wait_.length c1) p0.wait_.length d1) :: X) w' := by
  refine calls_np Try.func35 rfl rfl ?_
  have hle0 := Le.refl z0
  unfold go_net_Net_int_place at hf
  refine Run.seq ?_
  refine Run.region ?_
  refine Ops.ex (Ex.assign rfl) rfl rfl rfl ?_
  refine Ops.nil ?_
  refine Run.seq ?_
  refine Run.seq ?_
  refine Run.region ?_
  refine Ops.ex (Ex.move rfl) rfl rfl rfl ?_
  refine Ops.ex (Ex.nilCheck rfl) rfl rfl rfl ?_
  refine Ops.ex (Ex.fieldAddr rfl Try.underlying43 rfl sz41) rfl rfl rfl ?_
  refine Ops.load rfl Try.underlying41 rfl (hst.cell (i := 1) rfl rfl) rfl ?_
  refine Ops.ex (Ex.len' rfl rfl rfl Try.underlying41) rfl rfl rfl ?_
  refine Ops.ex (Ex.eqlI rfl rfl) rfl rfl rfl ?_
  refine Ops.nil ?_
  refine Run.cond rfl (fun hc => ?_) (fun hc => ?_)
  · replace hf := ifT (dec_T hc) hf
    refine Run.seq ?_
    refine Run.region ?_
    refine Ops.ex (Ex.assign rfl) rfl rfl rfl ?_
    refine Ops.nil ?_
    obtain rfl := Option.some.inj hf
    exact Run.retV [vi (-1)] rfl ⟨rfl, trivial⟩ ⟨z0, rfl, hle0, hst⟩
  · replace hf := ifF (dec_F hc) hf
    refine Run.skip ?_
    refine Run.seq ?_
    refine Run.drawH [([], fun w => ∃ ζ Y, Le z0 ζ ∧ Ht w0 (frz ζ :: (blk g0 [.slice A1 p0.wait_.length c1, vi p0.lost_] 43) :: (orow 3 1 (.slice A1 p0.wait_.length c1) p0.wait_.length d1) :: Y) w)] (by kernel_rfl) hst (fun w4 hst4 => ?_)
    have hS0 := (⟨_, _, (Le.refl _), (St.up (St.up (St.up hst4 2 rfl) 2 rfl) 2 rfl)⟩ : (fun w => ∃ ζ Y, Le z0 ζ ∧ Ht w0 (frz ζ :: (blk g0 [.slice A1 p0.wait_.length c1, vi p0.lost_] 43) :: (orow 3 1 (.slice A1 p0.wait_.length c1) p0.wait_.length d1) :: Y) w) _)
    refine Any.takeE 0 rfl rfl rfl rfl (by kernel_rfl) (fun _ _ _ _ _ h => h) ((Ex.move rfl).s) ?_
    refine Any.takeE 1 rfl rfl rfl rfl (by kernel_rfl) (fun _ _ _ _ _ h => h) ((Ex.move rfl).s) ?_
    refine Any.takeE 2 rfl rfl rfl rfl (by kernel_rfl) (fun _ _ _ _ _ h => h) ((Ex.nilCheck rfl).s) ?_
    refine Any.takeE 3 rfl rfl rfl rfl (by kernel_rfl) (fun _ _ _ _ _ h => h) ((Ex.fieldAddr rfl Try.underlying43 rfl sz41).s) ?_
    refine Any.take 0 4 rfl rfl rfl rfl rfl (by kernel_rfl) (fun _ _ _ _ _ h => h) (ExS.load rfl Try.underlying41 rfl (fun w hS => by obtain ⟨_, _, _, hs⟩ := hS; exact hs.cell (i := 1) rfl rfl)) hS0 ?_
    refine Any.takeE 5 rfl rfl rfl rfl (by kernel_rfl) (fun _ _ _ _ _ h => h) ((Ex.len' rfl rfl rfl Try.underlying41).s) ?_
    obtain ⟨_, hy5, hf⟩ := bnd hf
    refine Any.takeE 6 rfl rfl rfl rfl (by kernel_rfl) (fun _ _ _ _ _ h => h) ((Ex.rem rfl rfl (nzI_some hy5)).s) ?_
    refine Any.takeE 7 rfl rfl rfl rfl (by kernel_rfl) (fun _ _ _ _ _ h => h) ((Ex.move rfl).s) ?_
    refine Any.takeE 8 rfl rfl rfl rfl (by kernel_rfl) (fun _ _ _ _ _ h => h) ((Ex.nilCheck rfl).s) ?_
    refine Any.takeE 9 rfl rfl rfl rfl (by kernel_rfl) (fun _ _ _ _ _ h => h) ((Ex.fieldAddr rfl Try.underlying43 rfl sz41).s) ?_
    refine Any.take 0 10 rfl rfl rfl rfl rfl (by kernel_rfl) (fun _ _ _ _ _ h => h) (ExS.load rfl Try.underlying41 rfl (fun w hS => by obtain ⟨_, _, _, hs⟩ := hS; exact hs.cell (i := 1) rfl rfl)) hS0 ?_
    refine Any.takeE 11 rfl rfl rfl rfl (by kernel_rfl) (fun _ _ _ _ _ h => h) ((Ex.len' rfl rfl rfl Try.underlying41).s) ?_
    refine Any.takeE 12 rfl rfl rfl rfl (by kernel_rfl) (fun _ _ _ _ _ h => h) ((Ex.add rfl rfl).s) ?_
    refine Any.takeE 13 rfl rfl rfl rfl (by kernel_rfl) (fun _ _ _ _ _ h => h) ((Ex.move rfl).s) ?_
    refine Any.takeE 14 rfl rfl rfl rfl (by kernel_rfl) (fun _ _ _ _ _ h => h) ((Ex.nilCheck rfl).s) ?_
    refine Any.takeE 15 rfl rfl rfl rfl (by kernel_rfl) (fun _ _ _ _ _ h => h) ((Ex.fieldAddr rfl Try.underlying43 rfl sz41).s) ?_
    refine Any.take 0 16 rfl rfl rfl rfl rfl (by kernel_rfl) (fun _ _ _ _ _ h => h) (ExS.load rfl Try.underlying41 rfl (fun w hS => by obtain ⟨_, _, _, hs⟩ := hS; exact hs.cell (i := 1) rfl rfl)) hS0 ?_
    refine Any.takeE 17 rfl rfl rfl rfl (by kernel_rfl) (fun _ _ _ _ _ h => h) ((Ex.len' rfl rfl rfl Try.underlying41).s) ?_
    obtain ⟨_, hy6, hf⟩ := bnd hf
    refine Any.takeE 18 rfl rfl rfl rfl (by kernel_rfl) (fun _ _ _ _ _ h => h) ((Ex.rem rfl rfl (nzI_some hy6)).s) ?_
    refine Any.takeE 19 rfl rfl rfl rfl (by kernel_rfl) (fun _ _ _ _ _ h => h) ((Ex.assign rfl).s) ?_
    refine Any.done (by kernel_rfl) ?_
    obtain rfl := Option.some.inj hf
    exact Run.retV [vi (Int.tmod (wr ((Int.tmod p1 (p0.wait_.length : Int)) + (p0.wait_.length : Int))) (p0.wait_.length : Int))] rfl ⟨rfl, trivial⟩ ⟨z0, rfl, hle0, hst4⟩
def go_net_Net_int_Take (p0 : netNetint) (p1 : Int) : Option (Int × Bool × netNetint) :=
  (go_net_Net_int_place p0 p1).bind fun y4 => if y4 < 0 then (some (0, false, p0)) else ((atI p0.wait_ y4).bind fun y6 => (cutI p0.wait_ 0 y4).bind fun l11 => (cap3 p0.wait_.length y4 y4).bind fun _ => (cutI p0.wait_ (wr (y4 + 1)) (p0.wait_.length : Int)).bind fun l12 => (apB 8 l11 l12).bind fun l13 => some (y6, true, (⟨l13, p0.lost_⟩ : netNetint)))
set_option maxRecDepth 100000 in
set_option maxHeartbeats 4000000 in
theorem go_net_Net_int_Take.walk {w0 w : World} {X : List Res} {z0 : Zp} {p0 : netNetint} {g0 : Nat} {A1 : Option Addr} {c1 : Nat} {d1 : List Value} {p1 : Int} {r : Int × Bool × netNetint} (hst : Ht w0 (frz z0 :: (blk g0 [.slice A1 p0.wait_.length c1, vi p0.lost_] 43) :: (orow 3 1 (.slice A1 p0.wait_.length c1) p0.wait_.length d1) :: X) w) (f1 : Cs tI z0 d1 p0.wait_) (hf : go_net_Net_int_Take p0 p1 = some r) :
    Calls Try.prog 19 #[.pointer (some ⟨g0, 0, none⟩), vi p1] w fun e w' => ∃ (z' : Zp) (A9003 : Option Addr) (c9003 : Nat) (d9003 : List Value), e = .returned (.tuple #[vi r.1, vb r.2.1]) ∧ Le z0 z' ∧ Cs tI z' d9003 r.2.2.wait_ ∧ Ht w0 (frz z' :: (blk g0 [.slice A9003 r.2.2.wait_.length c9003, vi r.2.2.lost_] 43) :: (orow 3 1 (.slice A9003 r.2.2.wait_.length c9003) r.2.2.wait_.length d9003) :: X) w' := by
  refine calls_np Try.func19 rfl rfl ?_
  have hle0 := Le.refl z0
  unfold go_net_Net_int_Take at hf
  refine Run.seq ?_
  refine Run.region ?_
  refine Ops.ex (Ex.assign rfl) rfl rfl rfl ?_
  refine Ops.ex (Ex.assign rfl) rfl rfl rfl ?_
  refine Ops.nil ?_
  refine Run.seq ?_
  refine Run.region ?_
  refine Ops.ex (Ex.move rfl) rfl rfl rfl ?_
  refine Ops.ex (Ex.move rfl) rfl rfl rfl ?_
  obtain ⟨y4, hy4, hf⟩ := bnd hf
  refine Ops.call rfl rfl Try.func35 (by kernel_rfl) (by kernel_rfl) rfl (go_net_Net_int_place.walk (p0 := p0) (p1 := p1) (hst := hst) (f1 := f1) (hf := hy4)) ?_
  rintro _ w4 ⟨z4, rfl, hz4, hst4⟩
  refine ⟨_, rfl, ?_⟩
  replace f1 := f1.mono hz4
  replace hle0 := hle0.trans hz4
  refine Ops.ex (Ex.assign rfl) rfl rfl rfl ?_
  refine Ops.nil ?_
  refine Run.seq ?_
  refine Run.seq ?_
  refine Run.region ?_
  refine Ops.ex (Ex.move rfl) rfl rfl rfl ?_
  refine Ops.ex (Ex.lss rfl rfl) rfl rfl rfl ?_
  refine Ops.nil ?_
  refine Run.cond rfl (fun hc => ?_) (fun hc => ?_)
  · replace hf := ifT (dec_T hc) hf
    refine Run.seq ?_
    refine Run.region ?_
    refine Ops.ex (Ex.assign rfl) rfl rfl rfl ?_
    refine Ops.nil ?_
    refine Run.seq ?_
    refine Run.region ?_
    refine Ops.ex (Ex.move rfl) rfl rfl rfl ?_
    refine Ops.ex (Ex.assign rfl) rfl rfl rfl ?_
    refine Ops.ex (Ex.assign rfl) rfl rfl rfl ?_
    refine Ops.nil ?_
    obtain rfl := Option.some.inj hf
    exact Run.retV [vi 0, vb false] rfl ⟨rfl, rfl, trivial⟩ ⟨z4, A1, c1, d1, rfl, hle0, f1, hst4⟩
  · replace hf := ifF (dec_F hc) hf
    refine Run.skip ?_
    refine Run.seq ?_
    refine Run.region ?_
    refine Ops.ex (Ex.move rfl) rfl rfl rfl ?_
    refine Ops.ex (Ex.nilCheck rfl) rfl rfl rfl ?_
    refine Ops.ex (Ex.fieldAddr rfl Try.underlying43 rfl sz41) rfl rfl rfl ?_
    refine Ops.load rfl Try.underlying41 rfl (hst4.cell (i := 1) rfl rfl) rfl ?_
    refine Ops.ex (Ex.move rfl) rfl rfl rfl ?_
    obtain ⟨y6, hy6, hf⟩ := bnd hf
    obtain ⟨g8, p8, o8, cs8, hA8, ho8, hr8, f8⟩ := own_elem f1 rfl (hst4.get (i := 2) rfl) hy6
    obtain rfl := hr8
    refine Ops.ex (Ex.ixA hA8 ho8 hy6 rfl rfl rfl Try.underlying41 sz3) rfl rfl rfl ?_
    refine Ops.load rfl Try.underlying3 rfl ((f8 _ (hst4.get (i := 2) rfl)) 0 _ rfl) rfl ?_
    refine Ops.ex (Ex.assign rfl) rfl rfl rfl ?_
    refine Ops.nil ?_
    refine Run.seq ?_
    have hm10 := Le.refl z4
    refine Run.drawH [([], fun w => ∃ ζ Y, Le z4 ζ ∧ Ht w0 (frz ζ :: Y) w), ([15, 18], fun w => ∃ ζ Y, Le z4 ζ ∧ Ht w0 (frz ζ :: (orow 3 1 (.slice A1 p0.wait_.length c1) p0.wait_.length d1) :: Y) w), ([18], fun w => ∃ ζ Y, Le z4 ζ ∧ Ht w0 (frz ζ :: (blk g0 [.slice A1 p0.wait_.length c1, vi p0.lost_] 43) :: Y) w)] (by kernel_rfl) hst4 (fun w9 hst9 => ?_)
    have hS0 := (⟨_, _, (Le.refl _), hst9⟩ : (fun w => ∃ ζ Y, Le z4 ζ ∧ Ht w0 (frz ζ :: Y) w) _)
    have hS1 := (⟨_, _, (Le.refl _), (St.up (St.up hst9 2 rfl) 1 rfl)⟩ : (fun w => ∃ ζ Y, Le z4 ζ ∧ Ht w0 (frz ζ :: (orow 3 1 (.slice A1 p0.wait_.length c1) p0.wait_.length d1) :: Y) w) _)
    have hS2 := (⟨_, _, (Le.refl _), (St.up (St.up hst9 1 rfl) 1 rfl)⟩ : (fun w => ∃ ζ Y, Le z4 ζ ∧ Ht w0 (frz ζ :: (blk g0 [.slice A1 p0.wait_.length c1, vi p0.lost_] 43) :: Y) w) _)
    refine Any.takeE 0 rfl rfl rfl rfl (by kernel_rfl) (fun _ _ _ _ _ h => h) ((Ex.move rfl).s) ?_
    refine Any.takeE 1 rfl rfl rfl rfl (by kernel_rfl) (fun _ _ _ _ _ h => h) ((Ex.move rfl).s) ?_
    refine Any.takeE 2 rfl rfl rfl rfl (by kernel_rfl) (fun _ _ _ _ _ h => h) ((Ex.nilCheck rfl).s) ?_
    refine Any.takeE 3 rfl rfl rfl rfl (by kernel_rfl) (fun _ _ _ _ _ h => h) ((Ex.fieldAddr rfl Try.underlying43 rfl sz41).s) ?_
    refine Any.take 2 4 rfl rfl rfl rfl rfl (by kernel_rfl) (fun _ _ _ _ _ h => h) (ExS.load rfl Try.underlying41 rfl (fun w hS => by obtain ⟨_, _, _, hs⟩ := hS; exact hs.cell (i := 1) rfl rfl)) hS2 ?_
    refine Any.takeE 5 rfl rfl rfl rfl (by kernel_rfl) (fun _ _ _ _ _ h => h) ((Ex.move rfl).s) ?_
    refine Any.takeE 6 rfl rfl rfl rfl (by kernel_rfl) (fun _ _ _ _ _ h => h) ((Ex.move rfl).s) ?_
    obtain ⟨l11, hy11, hf⟩ := bnd hf
    obtain ⟨_, hq11, hf⟩ := bnd hf
    replace hq11 := cap3_some hq11
    skip
    obtain ⟨hl11, f11⟩ := own_pre f1 rfl (hst9.get (i := 2) rfl) hy11
    refine Any.takeE 7 rfl rfl rfl rfl (by kernel_rfl) (fun _ _ _ _ _ h => h) ((Ex.pre3 hl11 hy11 hq11 rfl rfl Try.underlying41 sz3 rfl rfl rfl).s) ?_
    refine Any.takeE 8 rfl rfl rfl rfl (by kernel_rfl) (fun _ _ _ _ _ h => h) ((Ex.move rfl).s) ?_
    refine Any.takeE 9 rfl rfl rfl rfl (by kernel_rfl) (fun _ _ _ _ _ h => h) ((Ex.nilCheck rfl).s) ?_
    refine Any.takeE 10 rfl rfl rfl rfl (by kernel_rfl) (fun _ _ _ _ _ h => h) ((Ex.fieldAddr rfl Try.underlying43 rfl sz41).s) ?_
    refine Any.take 2 11 rfl rfl rfl rfl rfl (by kernel_rfl) (fun _ _ _ _ _ h => h) (ExS.load rfl Try.underlying41 rfl (fun w hS => by obtain ⟨_, _, _, hs⟩ := hS; exact hs.cell (i := 1) rfl rfl)) hS2 ?_
    refine Any.takeE 12 rfl rfl rfl rfl (by kernel_rfl) (fun _ _ _ _ _ h => h) ((Ex.move rfl).s) ?_
    refine Any.takeE 13 rfl rfl rfl rfl (by kernel_rfl) (fun _ _ _ _ _ h => h) ((Ex.add rfl rfl).s) ?_
    obtain ⟨l12, hy12, hf⟩ := bnd hf
    obtain ⟨A12, c12, hA12, hB12, f12⟩ := own_sub f1 rfl (hst9.get (i := 2) rfl) hy12
    refine Any.takeE 14 rfl rfl rfl rfl (by kernel_rfl) (fun _ _ _ _ _ h => h) ((Ex.subA hA12 hB12 hy12 rfl rfl Try.underlying41 sz3 rfl rfl).s) ?_
    have hv13 := (f12 _ (hst9.get (i := 2) rfl))
    obtain ⟨fC13, hC13⟩ := St.cutRow (c' := y4.toNat) 2 hst9 rfl f1 rfl hy11 (cut_len hy11 hq11) (cut_cap hq11 hl11)
    have hst13 : Ht w0 (frz z4 :: (blk g0 [.slice A1 p0.wait_.length c1, vi p0.lost_] 43) :: (orow 3 1 (.slice A1 l11.length y4.toNat) l11.length (List.take (l11.length * 1) d1)) :: X) _ := hC13
    obtain ⟨l13, hy13, hf⟩ := bnd hf
    refine Any.one 15 (by kernel_rfl) rfl rfl (One.of_ops rfl ?_)
    refine Ops.app 2 hst13 rfl fC13 rfl hv13 rfl hy13 rfl rfl rfl rfl Try.underlying41 inf3 rfl (by decide) (by decide) rfl (fun A13 c13 d13 w13 f13 hst15 => Ops.stop ?_)
    have hS0 := (⟨_, _, (Le.refl _), hst15⟩ : (fun w => ∃ ζ Y, Le z4 ζ ∧ Ht w0 (frz ζ :: Y) w) _)
    have hS2 := (⟨_, _, (Le.refl _), (St.up (St.up hst15 1 rfl) 1 rfl)⟩ : (fun w => ∃ ζ Y, Le z4 ζ ∧ Ht w0 (frz ζ :: (blk g0 [.slice A1 p0.wait_.length c1, vi p0.lost_] 43) :: Y) w) _)
    refine ⟨⟨.inr (fun _ => hS0), .inl (by decide), .inr (fun _ => hS2), trivial⟩, ?_⟩
    refine Any.takeE 16 rfl rfl rfl rfl (by kernel_rfl) (fun _ _ _ _ _ h => h) ((Ex.nilCheck rfl).s) ?_
    refine Any.takeE 17 rfl rfl rfl rfl (by kernel_rfl) (fun _ _ _ _ _ h => h) ((Ex.fieldAddr rfl Try.underlying43 rfl sz41).s) ?_
    refine Any.one 18 (by kernel_rfl) rfl rfl (One.of_ops rfl ?_)
    refine Ops.store 1 [.slice A13 l13.length c13] hst15 rfl rfl rfl rfl sz41 rfl (by simp [Value.oneCell']) (by simp) (fun w16 hst16 => Ops.stop ?_)
    have hS0 := (⟨_, _, (Le.refl _), hst16⟩ : (fun w => ∃ ζ Y, Le z4 ζ ∧ Ht w0 (frz ζ :: Y) w) _)
    refine ⟨⟨.inr (fun _ => hS0), .inl (by decide), .inl (by decide), trivial⟩, ?_⟩
    refine Any.done (by kernel_rfl) ?_
    refine Run.seq ?_
    refine Run.region ?_
    refine Ops.ex (Ex.move rfl) rfl rfl rfl ?_
    refine Ops.ex (Ex.assign rfl) rfl rfl rfl ?_
    refine Ops.ex (Ex.assign rfl) rfl rfl rfl ?_
    refine Ops.nil ?_
    obtain rfl := Option.some.inj hf
    exact Run.retV [vi y6, vb true] rfl ⟨rfl, rfl, trivial⟩ ⟨z4, A13, c13, d13, rfl, hle0, f13, hst16⟩
def go_net_Net_int_Drop (p0 : netNetint) (p1 : Int) : Option (Bool × netNetint) :=
  (go_net_Net_int_Take p0 p1).bind fun y4 => if y4.2.1 then (some (y4.2.1, (⟨y4.2.2.wait_, wr (y4.2.2.lost_ + 1)⟩ : netNetint))) else (some (y4.2.1, y4.2.2))
set_option maxRecDepth 100000 in
set_option maxHeartbeats 4000000 in
theorem go_net_Net_int_Drop.walk {w0 w : World} {X : List Res} {z0 : Zp} {p0 : netNetint} {g0 : Nat} {A1 : Option Addr} {c1 : Nat} {d1 : List Value} {p1 : Int} {r : Bool × netNetint} (hst : Ht w0 (frz z0 :: (blk g0 [.slice A1 p0.wait_.length c1, vi p0.lost_] 43) :: (orow 3 1 (.slice A1 p0.wait_.length c1) p0.wait_.length d1) :: X) w) (f1 : Cs tI z0 d1 p0.wait_) (hf : go_net_Net_int_Drop p0 p1 = some r) :
    Calls Try.prog 21 #[.pointer (some ⟨g0, 0, none⟩), vi p1] w fun e w' => ∃ (z' : Zp) (A9002 : Option Addr) (c9002 : Nat) (d9002 : List Value), e = .returned (vb r.1) ∧ Le z0 z' ∧ Cs tI z' d9002 r.2.wait_ ∧ Ht w0 (frz z' :: (blk g0 [.slice A9002 r.2.wait_.length c9002, vi r.2.lost_] 43) :: (orow 3 1 (.slice A9002 r.2.wait_.length c9002) r.2.wait_.length d9002) :: X) w' := by
  refine calls_np Try.func21 rfl rfl ?_
  have hle0 := Le.refl z0
  unfold go_net_Net_int_Drop at hf
  refine Run.seq ?_
  refine Run.region ?_
  refine Ops.ex (Ex.assign rfl) rfl rfl rfl ?_
  refine Ops.nil ?_
  refine Run.seq ?_
  refine Run.region ?_
  refine Ops.ex (Ex.move rfl) rfl rfl rfl ?_
  refine Ops.ex (Ex.move rfl) rfl rfl rfl ?_
  obtain ⟨y4, hy4, hf⟩ := bnd hf
  refine Ops.call rfl rfl Try.func19 (by kernel_rfl) (by kernel_rfl) rfl (go_net_Net_int_Take.walk (p0 := p0) (p1 := p1) (hst := hst) (f1 := f1) (hf := hy4)) ?_
  rintro _ w4 ⟨z4, A7, c7, d7, rfl, hz4, f7, hst4⟩
  refine ⟨_, rfl, ?_⟩
  replace hle0 := hle0.trans hz4
  refine Ops.ex (Ex.move rfl) rfl rfl rfl ?_
  refine Ops.ex (Ex.extract rfl rfl) rfl rfl rfl ?_
  refine Ops.ex (Ex.extract rfl rfl) rfl rfl rfl ?_
  refine Ops.ex (Ex.assign rfl) rfl rfl rfl ?_
  refine Ops.ex (Ex.assign rfl) rfl rfl rfl ?_
  refine Ops.nil ?_
  refine Run.seq ?_
  refine Run.seq ?_
  refine Run.region ?_
  refine Ops.ex (Ex.move rfl) rfl rfl rfl ?_
  refine Ops.nil ?_
  refine Run.cond rfl (fun hc => ?_) (fun hc => ?_)
  · replace hf := ifTb hc hf
    refine Run.region ?_
    refine Ops.ex (Ex.move rfl) rfl rfl rfl ?_
    refine Ops.ex (Ex.nilCheck rfl) rfl rfl rfl ?_
    refine Ops.ex (Ex.fieldAddr rfl Try.underlying43 rfl sz3) rfl rfl rfl ?_
    refine Ops.load rfl Try.underlying3 rfl (hst4.cell (i := 1) rfl rfl) rfl ?_
    refine Ops.ex (Ex.add rfl rfl) rfl rfl rfl ?_
    refine Ops.ex (Ex.nilCheck rfl) rfl rfl rfl ?_
    refine Ops.ex (Ex.fieldAddr rfl Try.underlying43 rfl sz3) rfl rfl rfl ?_
    refine Ops.store 1 [vi (wr (y4.2.2.lost_ + 1))] hst4 rfl rfl rfl rfl sz3 rfl (by simp [Value.oneCell']) (by simp) (fun w9 hst9 => ?_)
    refine Ops.nil ?_
    refine Run.seq ?_
    refine Run.region ?_
    refine Ops.ex (Ex.move rfl) rfl rfl rfl ?_
    refine Ops.ex (Ex.assign rfl) rfl rfl rfl ?_
    refine Ops.nil ?_
    obtain rfl := Option.some.inj hf
    exact Run.retV [vb y4.2.1] rfl ⟨rfl, trivial⟩ ⟨z4, A7, c7, d7, rfl, hle0, f7, hst9⟩
  · replace hf := ifFb hc hf
    refine Run.skip ?_
    refine Run.seq ?_
    refine Run.region ?_
    refine Ops.ex (Ex.move rfl) rfl rfl rfl ?_
    refine Ops.ex (Ex.assign rfl) rfl rfl rfl ?_
    refine Ops.nil ?_
    obtain rfl := Option.some.inj hf
    exact Run.retV [vb y4.2.1] rfl ⟨rfl, trivial⟩ ⟨z4, A7, c7, d7, rfl, hle0, f7, hst4⟩
def go_net_Net_int_Send.j1 (a4 : Int) (nxb4 : (List Int × Int) → Option netNetint) (l62 : List Int) (x63 : Int) : Option netNetint :=
  (apB 8 l62 [a4]).bind fun l70 => nxb4 (l70, x63)
def go_net_Net_int_Send.b1 (i4 : Nat) (a4 : Int) : (List Int × Int) → (List Int × Int → Option netNetint) → Option netNetint :=
  fun (l50, x51) nxb4 => if (l50.length : Int) = 64 then ((go_net_Net_int_Drop (⟨l50, x51⟩ : netNetint) 0).bind fun y64 => go_net_Net_int_Send.j1 a4 nxb4 y64.2.wait_ y64.2.lost_) else (go_net_Net_int_Send.j1 a4 nxb4 l50 x51)
def go_net_Net_int_Send (p0 : netNetint) (p1 : List Int) : Option netNetint :=
  forL (go_net_Net_int_Send.b1) (fun (l50, x51) => some (⟨l50, x51⟩ : netNetint)) 0 p1 (p0.wait_, p0.lost_)
set_option maxRecDepth 100000 in
set_option maxHeartbeats 4000000 in
theorem go_net_Net_int_Send.walk {w0 w : World} {X : List Res} {z0 : Zp} {p0 : netNetint} {g0 : Nat} {A1 : Option Addr} {c1 : Nat} {d1 : List Value} {p1 : List Int} {A3 : Option Addr} {c3 : Nat} {r : netNetint} (hst : Ht w0 (frz z0 :: (blk g0 [.slice A1 p0.wait_.length c1, vi p0.lost_] 43) :: (orow 3 1 (.slice A1 p0.wait_.length c1) p0.wait_.length d1) :: X) w) (f1 : Cs tI z0 d1 p0.wait_) (f3 : Sl tI z0 A3 c3 p1) (hf : go_net_Net_int_Send p0 p1 = some r) :
    Calls Try.prog 18 #[.pointer (some ⟨g0, 0, none⟩), .slice A3 p1.length c3] w fun e w' => ∃ (z' : Zp) (A9001 : Option Addr) (c9001 : Nat) (d9001 : List Value), e = .returned (.tuple #[]) ∧ Le z0 z' ∧ Cs tI z' d9001 r.wait_ ∧ Ht w0 (frz z' :: (blk g0 [.slice A9001 r.wait_.length c9001, vi r.lost_] 43) :: (orow 3 1 (.slice A9001 r.wait_.length c9001) r.wait_.length d9001) :: X) w' := by
  refine calls_np Try.func18 rfl rfl ?_
  have hle0 := Le.refl z0
  unfold go_net_Net_int_Send at hf
  refine Run.seq ?_
  refine Run.region ?_
  refine Ops.ex (Ex.move rfl) rfl rfl rfl ?_
  refine Ops.ex (Ex.len' rfl rfl rfl Try.underlying41) rfl rfl rfl ?_
  refine Ops.ex (Ex.move rfl) rfl rfl rfl ?_
  refine Ops.nil ?_
  refine Run.block ?_
  have hc4 := f3.cap
  refine Run.sub (e' := [(0, .pointer (some ⟨g0, 0, none⟩)), (6, .slice A3 p1.length c3), (7, vi (p1.length : Int)), (8, vi ((0 : Nat) : Int))]) (subB_spec ⟨rfl, rfl, rfl, rfl, trivial⟩) ?_
  refine Run.loop (fun mb4 => (fun e' w' => ∃ (i4 : Nat) (l50 : List Int) (x51 : Int) (A50 : Option Addr) (c50 : Nat) (d50 : List Value) (z49 : Zp), mb4 = p1.length - i4 ∧ i4 ≤ p1.length ∧ forL (go_net_Net_int_Send.b1) (fun (l50, x51) => some (⟨l50, x51⟩ : netNetint)) i4 (p1.drop i4) (l50, x51) = some r ∧ e' = [(0, .pointer (some ⟨g0, 0, none⟩)), (6, .slice A3 p1.length c3), (7, vi (p1.length : Int)), (8, vi (i4 : Int))] ∧ Le z0 z49 ∧ Cs tI z49 d50 l50 ∧ Ht w0 (frz z49 :: (orow 3 1 (.slice A50 l50.length c50) l50.length d50) :: (blk g0 [.slice A50 l50.length c50, vi x51] 43) :: X) w')) p1.length ⟨0, p0.wait_, p0.lost_, A1, c1, d1, z0, rfl, Nat.zero_le _, hf, rfl, hle0, f1, (St.up (St.up (St.up hst 1 rfl) 2 rfl) 2 rfl)⟩ ?_
  rintro _ e' w52 ⟨i4, l50, x51, A50, c50, d50, z49, rfl, hi4, hf, rfl, hz52, f50, hst52⟩
  replace f3 := f3.mono hz52
  refine Run.seq ?_
  refine Run.region ?_
  refine Ops.ex (Ex.lss rfl rfl) rfl rfl rfl ?_
  refine Ops.nil ?_
  refine Run.seq ?_
  refine Run.cond rfl (fun hc => ?_) (fun hc => ?_)
  · have hl4 := lt_of_dec hc
    obtain ⟨a4, nxb4, ha4, hnxb4, hf⟩ := forL_in hf hl4
    unfold go_net_Net_int_Send.b1 at hf
    try dsimp only at hf
    refine Run.skip ?_
    refine Run.seq ?_
    refine Run.block ?_
    refine Run.seq ?_
    refine Run.region ?_
    obtain ⟨g54, p54, o54, cs54, hA54, ho54, hr54, f54⟩ := SlH.elem f3.toH (atI_nat ha4)
    obtain rfl := hr54
    refine Ops.ex (Ex.ixA hA54 ho54 (atI_nat ha4) rfl rfl rfl Try.underlying41 sz3) rfl rfl rfl ?_
    refine Ops.load rfl Try.underlying3 rfl ((f54.mono hst52.le) 0 _ rfl) rfl ?_
    refine Ops.ex (Ex.assign rfl) rfl rfl rfl ?_
    refine Ops.nil ?_
    refine Run.seq ?_
    refine Run.seq ?_
    refine Run.region ?_
    refine Ops.ex (Ex.move rfl) rfl rfl rfl ?_
    refine Ops.ex (Ex.nilCheck rfl) rfl rfl rfl ?_
    refine Ops.ex (Ex.fieldAddr rfl Try.underlying43 rfl sz41) rfl rfl rfl ?_
    refine Ops.load rfl Try.underlying41 rfl (hst52.cell (i := 2) rfl rfl) rfl ?_
    refine Ops.ex (Ex.len' rfl rfl rfl Try.underlying41) rfl rfl rfl ?_
    refine Ops.ex (Ex.eqlI rfl rfl) rfl rfl rfl ?_
    refine Ops.nil ?_
    have hm60 := Le.refl z49
    apply Run.jn (fun e' w' => ∃ (l62 : List Int) (x63 : Int) (A62 : Option Addr) (c62 : Nat) (d62 : List Value) (z61 : Zp), go_net_Net_int_Send.j1 a4 nxb4 l62 x63 = some r ∧ e' = [(0, .pointer (some ⟨g0, 0, none⟩)), (5, vi a4), (6, .slice A3 p1.length c3), (7, vi (p1.length : Int)), (8, vi (i4 : Int))] ∧ Le z49 z61 ∧ Le z0 z61 ∧ Cs tI z61 d62 l62 ∧ Ht w0 (frz z61 :: (orow 3 1 (.slice A62 l62.length c62) l62.length d62) :: (blk g0 [.slice A62 l62.length c62, vi x63] 43) :: X) w')
    · intro hj55
      refine Run.cond rfl (fun hc => ?_) (fun hc => ?_)
      · replace hf := ifT (dec_T hc) hf
        refine Run.region ?_
        refine Ops.ex (Ex.move rfl) rfl rfl rfl ?_
        obtain ⟨y64, hy64, hf⟩ := bnd hf
        refine Ops.call rfl rfl Try.func21 (by kernel_rfl) (by kernel_rfl) rfl (go_net_Net_int_Drop.walk (p0 := (⟨l50, x51⟩ : netNetint)) (p1 := 0) (hst := (St.up (St.up (St.up hst52 1 rfl) 2 rfl) 2 rfl)) (f1 := f50) (hf := hy64)) ?_
        rintro _ w64 ⟨z64, A66, c66, d66, rfl, hz64, f66, hst64⟩
        refine ⟨_, rfl, ?_⟩
        replace f3 := f3.mono hz64; replace f54 := f54.mono hz64
        replace hz52 := hz52.trans hz64
        replace hm60 := hm60.trans hz64
        refine Ops.nil ?_
        exact Run.sub (by exact subB_spec ⟨rfl, rfl, rfl, rfl, rfl, trivial⟩) (hj55 _ _ ⟨y64.2.wait_, y64.2.lost_, A66, c66, d66, z64, hf, rfl, hm60, hz52, f66, (St.up (St.up (St.up hst64 1 rfl) 2 rfl) 2 rfl)⟩)
      · replace hf := ifF (dec_F hc) hf
        refine Run.skip ?_
        exact Run.sub (by exact subB_spec ⟨rfl, rfl, rfl, rfl, rfl, trivial⟩) (hj55 _ _ ⟨l50, x51, A50, c50, d50, z49, hf, rfl, hm60, hz52, f50, hst52⟩)
    · rintro e' w68 ⟨l62, x63, A62, c62, d62, z61, hf, rfl, hz68, hy68_0, f62, hst68⟩
      replace f3 := f3.mono hz68
      unfold go_net_Net_int_Send.j1 at hf
      refine Run.region ?_
      refine Ops.ex (Ex.move rfl) rfl rfl rfl ?_
      refine Ops.ex (Ex.move rfl) rfl rfl rfl ?_
      refine Ops.ex (Ex.nilCheck rfl) rfl rfl rfl ?_
      refine Ops.ex (Ex.fieldAddr rfl Try.underlying43 rfl sz41) rfl rfl rfl ?_
      refine Ops.load rfl Try.underlying41 rfl (hst68.cell (i := 2) rfl rfl) rfl ?_
      refine Ops.ex (Ex.move rfl) rfl rfl rfl ?_
      refine Ops.sliceF [vi a4] hst68 rfl Try.underlying41 sz3 zr3 rfl rfl (by kernel_rfl) rfl (by simp [Value.oneCell']) rfl (fun A69 w69 hst69 => ?_)
      have f69 : Cs tI z61 [vi a4] [a4] := (Cs.cons (c := [vi a4]) rfl (Cs.nil _ _))
      obtain ⟨l70, hy70, hf⟩ := bnd hf
      refine Ops.app 2 hst69 rfl f62 rfl (own_slh f69 rfl (hst69.get (i := 1) rfl)) rfl hy70 rfl rfl rfl rfl Try.underlying41 inf3 rfl (by decide) (by decide) rfl (fun A70 c70 d70 w70 f70 hst70 => ?_)
      refine Ops.ex (Ex.nilCheck rfl) rfl rfl rfl ?_
      refine Ops.ex (Ex.fieldAddr rfl Try.underlying43 rfl sz41) rfl rfl rfl ?_
      refine Ops.store 3 [.slice A70 l70.length c70] hst70 rfl rfl rfl rfl sz41 rfl (by simp [Value.oneCell']) (by simp) (fun w71 hst71 => ?_)
      refine Ops.nil ?_
      refine Run.endBlk ?_
      refine Run.region ?_
      refine Ops.ex (Ex.add rfl rfl) rfl rfl rfl ?_
      refine Ops.ex (Ex.move rfl) rfl rfl rfl ?_
      refine Ops.nil ?_
      refine Run.re 8 rfl (congrArg vi (wr_succ' hl4 hc4)) ?_
      exact Run.sub (by exact subB_spec ⟨rfl, rfl, rfl, rfl, trivial⟩) (Run.stop ⟨p1.length - (i4 + 1), by omega, i4 + 1, l70, x63, A70, c70, d70, z61, rfl, by omega, (hnxb4 _).symm.trans hf, rfl, hy68_0, f70, (St.forget hst71 1)⟩)
  · replace hf := forL_out hf (nlt_of_dec hc)
    try dsimp only at hf
    refine Run.exit _ rfl ?_
    obtain rfl := Option.some.inj hf
    exact Run.doneV [] rfl trivial ⟨z49, A50, c50, d50, rfl, hz52, f50, (St.up (St.up (St.up hst52 1 rfl) 2 rfl) 2 rfl)⟩
def go_net_Net_int_Twice (p0 : netNetint) (p1 : Int) : Option (Bool × netNetint) :=
  (go_net_Net_int_place p0 p1).bind fun y4 => if 0 ≤ y4 then ((atI p0.wait_ y4).bind fun y6 => (go_net_Net_int_Send p0 [y6]).bind fun y10 => some (decide (0 ≤ y4), y10)) else (some (decide (0 ≤ y4), p0))
set_option maxRecDepth 100000 in
set_option maxHeartbeats 4000000 in
theorem go_net_Net_int_Twice.walk {w0 w : World} {X : List Res} {z0 : Zp} {p0 : netNetint} {g0 : Nat} {A1 : Option Addr} {c1 : Nat} {d1 : List Value} {p1 : Int} {r : Bool × netNetint} (hst : Ht w0 (frz z0 :: (blk g0 [.slice A1 p0.wait_.length c1, vi p0.lost_] 43) :: (orow 3 1 (.slice A1 p0.wait_.length c1) p0.wait_.length d1) :: X) w) (f1 : Cs tI z0 d1 p0.wait_) (hf : go_net_Net_int_Twice p0 p1 = some r) :
    Calls Try.prog 22 #[.pointer (some ⟨g0, 0, none⟩), vi p1] w fun e w' => ∃ (z' : Zp) (A9002 : Option Addr) (c9002 : Nat) (d9002 : List Value), e = .returned (vb r.1) ∧ Le z0 z' ∧ Cs tI z' d9002 r.2.wait_ ∧ Ht w0 (frz z' :: (blk g0 [.slice A9002 r.2.wait_.length c9002, vi r.2.lost_] 43) :: (orow 3 1 (.slice A9002 r.2.wait_.length c9002) r.2.wait_.length d9002) :: X) w' := by
  refine calls_np Try.func22 rfl rfl ?_
  have hle0 := Le.refl z0
  unfold go_net_Net_int_Twice at hf
  refine Run.seq ?_
  refine Run.region ?_
  refine Ops.ex (Ex.assign rfl) rfl rfl rfl ?_
  refine Ops.nil ?_
  refine Run.seq ?_
  refine Run.region ?_
  refine Ops.ex (Ex.move rfl) rfl rfl rfl ?_
  refine Ops.ex (Ex.move rfl) rfl rfl rfl ?_
  obtain ⟨y4, hy4, hf⟩ := bnd hf
  refine Ops.call rfl rfl Try.func35 (by kernel_rfl) (by kernel_rfl) rfl (go_net_Net_int_place.walk (p0 := p0) (p1 := p1) (hst := hst) (f1 := f1) (hf := hy4)) ?_
  rintro _ w4 ⟨z4, rfl, hz4, hst4⟩
  refine ⟨_, rfl, ?_⟩
  replace f1 := f1.mono hz4
  replace hle0 := hle0.trans hz4
  refine Ops.ex (Ex.assign rfl) rfl rfl rfl ?_
  refine Ops.nil ?_
  refine Run.seq ?_
  refine Run.seq ?_
  refine Run.region ?_
  refine Ops.ex (Ex.move rfl) rfl rfl rfl ?_
  refine Ops.ex (Ex.geq rfl rfl) rfl rfl rfl ?_
  refine Ops.nil ?_
  refine Run.cond rfl (fun hc => ?_) (fun hc => ?_)
  · replace hf := ifT (dec_T hc) hf
    refine Run.region ?_
    refine Ops.ex (Ex.move rfl) rfl rfl rfl ?_
    refine Ops.ex (Ex.move rfl) rfl rfl rfl ?_
    refine Ops.ex (Ex.nilCheck rfl) rfl rfl rfl ?_
    refine Ops.ex (Ex.fieldAddr rfl Try.underlying43 rfl sz41) rfl rfl rfl ?_
    refine Ops.load rfl Try.underlying41 rfl (hst4.cell (i := 1) rfl rfl) rfl ?_
    refine Ops.ex (Ex.move rfl) rfl rfl rfl ?_
    obtain ⟨y6, hy6, hf⟩ := bnd hf
    obtain ⟨g8, p8, o8, cs8, hA8, ho8, hr8, f8⟩ := own_elem f1 rfl (hst4.get (i := 2) rfl) hy6
    obtain rfl := hr8
    refine Ops.ex (Ex.ixA hA8 ho8 hy6 rfl rfl rfl Try.underlying41 sz3) rfl rfl rfl ?_
    refine Ops.load rfl Try.underlying3 rfl ((f8 _ (hst4.get (i := 2) rfl)) 0 _ rfl) rfl ?_
    refine Ops.sliceF [vi y6] hst4 rfl Try.underlying41 sz3 zr3 rfl rfl (by kernel_rfl) rfl (by simp [Value.oneCell']) rfl (fun A9 w9 hst9 => ?_)
    have f9 : Cs tI z4 [vi y6] [y6] := (Cs.cons (c := [vi y6]) rfl (Cs.nil _ _))
    obtain ⟨z11, hz11, f11, hst11⟩ := St.freeze (τ := tI) (xs := [y6]) hst9 f9 rfl
    replace f1 := f1.mono hz11
    replace hle0 := hle0.trans hz11
    obtain ⟨y10, hy10, hf⟩ := bnd hf
    refine Ops.call rfl rfl Try.func18 (by kernel_rfl) (by kernel_rfl) rfl (go_net_Net_int_Send.walk (p0 := p0) (p1 := [y6]) (hst := hst11) (f1 := f1) (f3 := f11) (hf := hy10)) ?_
    rintro _ w10 ⟨z10, A12, c12, d12, rfl, hz10, f12, hst10⟩
    refine ⟨_, rfl, ?_⟩
    replace f11 := f11.mono hz10
    replace hle0 := hle0.trans hz10
    refine Ops.nil ?_
    refine Run.seq ?_
    refine Run.region ?_
    refine Ops.ex (Ex.move rfl) rfl rfl rfl ?_
    refine Ops.ex (Ex.geq rfl rfl) rfl rfl rfl ?_
    refine Ops.ex (Ex.assign rfl) rfl rfl rfl ?_
    refine Ops.nil ?_
    obtain rfl := Option.some.inj hf
    exact Run.retV [vb (decide (0 ≤ y4))] rfl ⟨rfl, trivial⟩ ⟨z10, A12, c12, d12, rfl, hle0, f12, hst10⟩
  · replace hf := ifF (dec_F hc) hf
    refine Run.skip ?_
    refine Run.seq ?_
    refine Run.region ?_
    refine Ops.ex (Ex.move rfl) rfl rfl rfl ?_
    refine Ops.ex (Ex.geq rfl rfl) rfl rfl rfl ?_
    refine Ops.ex (Ex.assign rfl) rfl rfl rfl ?_
    refine Ops.nil ?_
    obtain rfl := Option.some.inj hf
    exact Run.retV [vb (decide (0 ≤ y4))] rfl ⟨rfl, trivial⟩ ⟨z4, A1, c1, d1, rfl, hle0, f1, hst4⟩
def go_net_Net_int_All (p0 : netNetint) : Option Unit :=
  some ()
set_option maxRecDepth 100000 in
set_option maxHeartbeats 4000000 in
theorem go_net_Net_int_All.walk {w0 w : World} {X : List Res} {z0 : Zp} {p0 : netNetint} {g0 : Nat} {A1 : Option Addr} {c1 : Nat} {d1 : List Value} {r : Unit} (hst : Ht w0 (frz z0 :: (blk g0 [.slice A1 p0.wait_.length c1, vi p0.lost_] 43) :: (orow 3 1 (.slice A1 p0.wait_.length c1) p0.wait_.length d1) :: X) w) (f1 : Cs tI z0 d1 p0.wait_) (hf : go_net_Net_int_All p0 = some r) :
    Calls Try.prog 29 #[.pointer (some ⟨g0, 0, none⟩)] w fun e w' => ∃ (z' : Zp) (g9001 : Nat), e = .returned (.func (.func 37) #[] #[.pointer (some ⟨g9001, 0, none⟩)]) ∧ Le z0 z' ∧ Ht w0 (frz z' :: (blk g0 [.slice A1 p0.wait_.length c1, vi p0.lost_] 43) :: (orow 3 1 (.slice A1 p0.wait_.length c1) p0.wait_.length d1) :: (blk g9001 [.pointer (some ⟨g0, 0, none⟩)] 40) :: X) w' := by
  refine calls_np Try.func29 rfl rfl ?_
  have hle0 := Le.refl z0
  unfold go_net_Net_int_All at hf
  refine Run.seq ?_
  refine Run.region ?_
  refine Ops.boxF [.pointer (some ⟨g0, 0, none⟩)] hst rfl rfl rfl (fun g3 w3 hst3 => ?_)
  refine Ops.ex (Ex.assign rfl) rfl rfl rfl ?_
  refine Ops.nil ?_
  refine Run.seq ?_
  refine Run.region ?_
  refine Ops.ex (Ex.funcE rfl rfl) rfl rfl rfl ?_
  refine Ops.ex (Ex.assign rfl) rfl rfl rfl ?_
  refine Ops.nil ?_
  obtain rfl := Option.some.inj hf
  exact Run.retV [.func (.func 37) #[] #[.pointer (some ⟨g3, 0, none⟩)]] rfl ⟨rfl, trivial⟩ ⟨z0, g3, rfl, hle0, (St.up (St.up (St.up (St.up hst3 1 rfl) 3 rfl) 3 rfl) 3 rfl)⟩
def go_net_Net_int_Len (p0 : netNetint) : Option Int :=
  some (p0.wait_.length : Int)
set_option maxRecDepth 100000 in
set_option maxHeartbeats 4000000 in
theorem go_net_Net_int_Len.walk {w0 w : World} {X : List Res} {z0 : Zp} {p0 : netNetint} {g0 : Nat} {A1 : Option Addr} {c1 : Nat} {d1 : List Value} {r : Int} (hst : Ht w0 (frz z0 :: (blk g0 [.slice A1 p0.wait_.length c1, vi p0.lost_] 43) :: (orow 3 1 (.slice A1 p0.wait_.length c1) p0.wait_.length d1) :: X) w) (f1 : Cs tI z0 d1 p0.wait_) (hf : go_net_Net_int_Len p0 = some r) :
    Calls Try.prog 30 #[.pointer (some ⟨g0, 0, none⟩)] w fun e w' => ∃ (z' : Zp), e = .returned (vi r) ∧ Le z0 z' ∧ Ht w0 (frz z' :: (blk g0 [.slice A1 p0.wait_.length c1, vi p0.lost_] 43) :: (orow 3 1 (.slice A1 p0.wait_.length c1) p0.wait_.length d1) :: X) w' := by
  refine calls_np Try.func30 rfl rfl ?_
  have hle0 := Le.refl z0
  unfold go_net_Net_int_Len at hf
  refine Run.seq ?_
  refine Run.region ?_
  refine Ops.ex (Ex.assign rfl) rfl rfl rfl ?_
  refine Ops.nil ?_
  refine Run.seq ?_
  refine Run.region ?_
  refine Ops.ex (Ex.move rfl) rfl rfl rfl ?_
  refine Ops.ex (Ex.nilCheck rfl) rfl rfl rfl ?_
  refine Ops.ex (Ex.fieldAddr rfl Try.underlying43 rfl sz41) rfl rfl rfl ?_
  refine Ops.load rfl Try.underlying41 rfl (hst.cell (i := 1) rfl rfl) rfl ?_
  refine Ops.ex (Ex.len' rfl rfl rfl Try.underlying41) rfl rfl rfl ?_
  refine Ops.ex (Ex.assign rfl) rfl rfl rfl ?_
  refine Ops.nil ?_
  obtain rfl := Option.some.inj hf
  exact Run.retV [vi (p0.wait_.length : Int)] rfl ⟨rfl, trivial⟩ ⟨z0, rfl, hle0, hst⟩
def go_net_Net_int_Lost (p0 : netNetint) : Option Int :=
  some p0.lost_
set_option maxRecDepth 100000 in
set_option maxHeartbeats 4000000 in
theorem go_net_Net_int_Lost.walk {w0 w : World} {X : List Res} {z0 : Zp} {p0 : netNetint} {g0 : Nat} {A1 : Option Addr} {c1 : Nat} {d1 : List Value} {r : Int} (hst : Ht w0 (frz z0 :: (blk g0 [.slice A1 p0.wait_.length c1, vi p0.lost_] 43) :: (orow 3 1 (.slice A1 p0.wait_.length c1) p0.wait_.length d1) :: X) w) (f1 : Cs tI z0 d1 p0.wait_) (hf : go_net_Net_int_Lost p0 = some r) :
    Calls Try.prog 31 #[.pointer (some ⟨g0, 0, none⟩)] w fun e w' => ∃ (z' : Zp), e = .returned (vi r) ∧ Le z0 z' ∧ Ht w0 (frz z' :: (blk g0 [.slice A1 p0.wait_.length c1, vi p0.lost_] 43) :: (orow 3 1 (.slice A1 p0.wait_.length c1) p0.wait_.length d1) :: X) w' := by
  refine calls_np Try.func31 rfl rfl ?_
  have hle0 := Le.refl z0
  unfold go_net_Net_int_Lost at hf
  refine Run.seq ?_
  refine Run.region ?_
  refine Ops.ex (Ex.assign rfl) rfl rfl rfl ?_
  refine Ops.nil ?_
  refine Run.seq ?_
  refine Run.region ?_
  refine Ops.ex (Ex.move rfl) rfl rfl rfl ?_
  refine Ops.ex (Ex.nilCheck rfl) rfl rfl rfl ?_
  refine Ops.ex (Ex.fieldAddr rfl Try.underlying43 rfl sz3) rfl rfl rfl ?_
  refine Ops.load rfl Try.underlying3 rfl (hst.cell (i := 1) rfl rfl) rfl ?_
  refine Ops.ex (Ex.assign rfl) rfl rfl rfl ?_
  refine Ops.nil ?_
  obtain rfl := Option.some.inj hf
  exact Run.retV [vi p0.lost_] rfl ⟨rfl, trivial⟩ ⟨z0, rfl, hle0, hst⟩
def go_law15_place (p0 : Int) (p1 : Int) : Option Int :=
  (nzI p1).bind fun _ => (nzI p1).bind fun _ => some (Int.tmod (wr ((Int.tmod p0 p1) + p1)) p1)
set_option maxRecDepth 100000 in
set_option maxHeartbeats 4000000 in
theorem go_law15_place.walk {w0 w : World} {X : List Res} {z0 : Zp} {p0 : Int} {p1 : Int} {r : Int} (hst : Ht w0 (frz z0 :: X) w) (hf : go_law15_place p0 p1 = some r) :
    Calls Try.prog 20 #[vi p0, vi p1] w fun e w' => ∃ (z' : Zp), e = .returned (vi r) ∧ Le z0 z' ∧ Ht w0 (frz z' :: X) w' := by
  refine calls_np Try.func20 rfl rfl ?_
  have hle0 := Le.refl z0
  unfold go_law15_place at hf
  refine Run.seq ?_
  refine Run.region ?_
  refine Ops.ex (Ex.assign rfl) rfl rfl rfl ?_
  refine Ops.nil ?_
  refine Run.seq ?_
  refine Run.region ?_
  refine Ops.ex (Ex.move rfl) rfl rfl rfl ?_
  refine Ops.ex (Ex.move rfl) rfl rfl rfl ?_
  obtain ⟨_, hy3, hf⟩ := bnd hf
  refine Ops.ex (Ex.rem rfl rfl (nzI_some hy3)) rfl rfl rfl ?_
  refine Ops.ex (Ex.move rfl) rfl rfl rfl ?_
  refine Ops.ex (Ex.add rfl rfl) rfl rfl rfl ?_
  refine Ops.ex (Ex.move rfl) rfl rfl rfl ?_
  obtain ⟨_, hy4, hf⟩ := bnd hf
  refine Ops.ex (Ex.rem rfl rfl (nzI_some hy4)) rfl rfl rfl ?_
  refine Ops.ex (Ex.assign rfl) rfl rfl rfl ?_
  refine Ops.nil ?_
  obtain rfl := Option.some.inj hf
  exact Run.retV [vi (Int.tmod (wr ((Int.tmod p0 p1) + p1)) p1)] rfl ⟨rfl, trivial⟩ ⟨z0, rfl, hle0, hst⟩
def go_net_Net_int_All_c1.b1 {σ : Type} (yield : Int → σ → Option (Bool × σ)) (i3 : Nat) (a3 : Int) : σ → (σ → Option σ) → Option σ :=
  fun ys16 nxb3 => (yield a3 ys16).bind fun y20 => if y20.1 then (nxb3 y20.2) else (some y20.2)
def go_net_Net_int_All_c1 {σ : Type} (yield : Int → σ → Option (Bool × σ)) (s0 : σ) (q0 : netNetint) : Option σ :=
  forL (go_net_Net_int_All_c1.b1 yield) (fun ys16 => some ys16) 0 q0.wait_ s0
set_option maxRecDepth 100000 in
set_option maxHeartbeats 4000000 in
theorem go_net_Net_int_All_c1.walk {w0 w : World} {X : List Res} {z0 : Zp} {l : Nat} {σ : Type} {J : σ → Zp → List Res → Prop} {yield : Int → σ → Option (Bool × σ)} {s0 : σ} {Hs0 : List Res} {q0 : netNetint} {gq0o : Nat} {A1 : Option Addr} {c1 : Nat} {d1 : List Value} {gq0 : Nat} {r : σ} (hst : Ht w0 (frz z0 :: (blk gq0 [.pointer (some ⟨gq0o, 0, none⟩)] 40) :: (blk gq0o [.slice A1 q0.wait_.length c1, vi q0.lost_] 43) :: (orow 3 1 (.slice A1 q0.wait_.length c1) q0.wait_.length d1) :: (Hs0 ++ X)) w) (hY : YC Try.prog l w0 J (fun z a vs => vs = [vi a]) yield) (hJ0 : JH J s0 z0 Hs0) (f1 : Cs tI z0 d1 q0.wait_) (hf : go_net_Net_int_All_c1 yield s0 q0 = some r) :
    Calls Try.prog 37 #[.func (.yield l) #[] #[], .pointer (some ⟨gq0, 0, none⟩)] w fun e w' => ∃ (z' : Zp) (Hs9001 : List Res), e = .returned (.tuple #[]) ∧ Le z0 z' ∧ JH J r z' Hs9001 ∧ Ht w0 (frz z' :: (blk gq0 [.pointer (some ⟨gq0o, 0, none⟩)] 40) :: (blk gq0o [.slice A1 q0.wait_.length c1, vi q0.lost_] 43) :: (orow 3 1 (.slice A1 q0.wait_.length c1) q0.wait_.length d1) :: (Hs9001 ++ X)) w' := by
  refine calls_np Try.func37 rfl rfl ?_
  have hle0 := Le.refl z0
  unfold go_net_Net_int_All_c1 at hf
  refine Run.seq ?_
  refine Run.region ?_
  refine Ops.load rfl Try.underlying40 rfl (hst.cell (i := 1) rfl rfl) rfl ?_
  refine Ops.ex (Ex.nilCheck rfl) rfl rfl rfl ?_
  refine Ops.ex (Ex.fieldAddr rfl Try.underlying43 rfl sz41) rfl rfl rfl ?_
  refine Ops.load rfl Try.underlying41 rfl (hst.cell (i := 2) rfl rfl) rfl ?_
  refine Ops.ex (Ex.len' rfl rfl rfl Try.underlying41) rfl rfl rfl ?_
  refine Ops.ex (Ex.move rfl) rfl rfl rfl ?_
  refine Ops.nil ?_
  refine Run.block ?_
  have hc3 := (own_slh f1 rfl (hst.get (i := 3) rfl)).cap
  refine Run.sub (e' := [(0, .func (.yield l) #[] #[]), (8, .slice A1 q0.wait_.length c1), (9, vi (q0.wait_.length : Int)), (10, vi ((0 : Nat) : Int))]) (subB_spec ⟨rfl, rfl, rfl, rfl, trivial⟩) ?_
  refine Run.loop (fun mb3 => (fun e' w' => ∃ (i3 : Nat) (ys16 : σ) (Hs16 : List Res) (z15 : Zp), mb3 = q0.wait_.length - i3 ∧ i3 ≤ q0.wait_.length ∧ forL (go_net_Net_int_All_c1.b1 yield) (fun ys16 => some ys16) i3 (q0.wait_.drop i3) ys16 = some r ∧ e' = [(0, .func (.yield l) #[] #[]), (8, .slice A1 q0.wait_.length c1), (9, vi (q0.wait_.length : Int)), (10, vi (i3 : Int))] ∧ Le z0 z15 ∧ JH J ys16 z15 Hs16 ∧ Ht w0 (frz z15 :: (blk gq0 [.pointer (some ⟨gq0o, 0, none⟩)] 40) :: (blk gq0o [.slice A1 q0.wait_.length c1, vi q0.lost_] 43) :: (orow 3 1 (.slice A1 q0.wait_.length c1) q0.wait_.length d1) :: (Hs16 ++ X)) w')) q0.wait_.length ⟨0, s0, Hs0, z0, rfl, Nat.zero_le _, hf, rfl, hle0, hJ0, hst⟩ ?_
  rintro _ e' w17 ⟨i3, ys16, Hs16, z15, rfl, hi3, hf, rfl, hz17, hJ16, hst17⟩
  replace f1 := f1.mono hz17
  refine Run.seq ?_
  refine Run.region ?_
  refine Ops.ex (Ex.lss rfl rfl) rfl rfl rfl ?_
  refine Ops.nil ?_
  refine Run.seq ?_
  refine Run.cond rfl (fun hc => ?_) (fun hc => ?_)
  · have hl3 := lt_of_dec hc
    obtain ⟨a3, nxb3, ha3, hnxb3, hf⟩ := forL_in hf hl3
    unfold go_net_Net_int_All_c1.b1 at hf
    try dsimp only at hf
    refine Run.skip ?_
    refine Run.seq ?_
    refine Run.block ?_
    refine Run.seq ?_
    refine Run.region ?_
    obtain ⟨g19, p19, o19, cs19, hA19, ho19, hr19, f19⟩ := own_elem f1 rfl (hst17.get (i := 3) rfl) (atI_nat ha3)
    obtain rfl := hr19
    refine Ops.ex (Ex.ixA hA19 ho19 (atI_nat ha3) rfl rfl rfl Try.underlying41 sz3) rfl rfl rfl ?_
    refine Ops.load rfl Try.underlying3 rfl ((f19 _ (hst17.get (i := 3) rfl)) 0 _ rfl) rfl ?_
    refine Ops.ex (Ex.assign rfl) rfl rfl rfl ?_
    refine Ops.nil ?_
    refine Run.seq ?_
    refine Run.region ?_
    refine Ops.ex (Ex.move rfl) rfl rfl rfl ?_
    refine Ops.ex (Ex.move rfl) rfl rfl rfl ?_
    obtain ⟨y20, hy20, hf⟩ := bnd hf
    refine Ops.yieldZ (a := a3) [blk gq0 [.pointer (some ⟨gq0o, 0, none⟩)] 40, blk gq0o [.slice A1 q0.wait_.length c1, vi q0.lost_] 43, orow 3 1 (.slice A1 q0.wait_.length c1) q0.wait_.length d1] hY hJ16 rfl hst17 hy20 rfl rfl rfl (fun w20 z20 Hs20 hz20 hJ20 hst20 => ?_)
    replace f1 := f1.mono hz20
    replace hz17 := hz17.trans hz20
    have hst20' : Ht w0 (frz z20 :: (blk gq0 [.pointer (some ⟨gq0o, 0, none⟩)] 40) :: (blk gq0o [.slice A1 q0.wait_.length c1, vi q0.lost_] 43) :: (orow 3 1 (.slice A1 q0.wait_.length c1) q0.wait_.length d1) :: (Hs20 ++ X)) _ := hst20
    refine Ops.ex (Ex.not rfl) rfl rfl rfl ?_
    refine Ops.nil ?_
    refine Run.cond rfl (fun hc => ?_) (fun hc => ?_)
    · replace hf := ifFb (bn_T hc) hf
      obtain rfl := Option.some.inj hf
      exact Run.retV [] rfl trivial ⟨z20, Hs20, rfl, hz17, hJ20, hst20'⟩
    · replace hf := ifTb (bn_F hc) hf
      refine Run.skip ?_
      refine Run.endBlk ?_
      refine Run.region ?_
      refine Ops.ex (Ex.add rfl rfl) rfl rfl rfl ?_
      refine Ops.ex (Ex.move rfl) rfl rfl rfl ?_
      refine Ops.nil ?_
      refine Run.re 10 rfl (congrArg vi (wr_succ' hl3 hc3)) ?_
      exact Run.sub (by exact subB_spec ⟨rfl, rfl, rfl, rfl, trivial⟩) (Run.stop ⟨q0.wait_.length - (i3 + 1), by omega, i3 + 1, y20.2, Hs20, z20, rfl, by omega, (hnxb3 _).symm.trans hf, rfl, hz17, hJ20, hst20'⟩)
  · replace hf := forL_out hf (nlt_of_dec hc)
    try dsimp only at hf
    refine Run.exit _ rfl ?_
    obtain rfl := Option.some.inj hf
    exact Run.doneV [] rfl trivial ⟨z15, Hs16, rfl, hz17, hJ16, hst17⟩
def go_law15_shows.z1 (p1 : List Int) : Int → Int → Option (Bool × (Int × Nat)) :=
  fun a12_0 x29 => if (p1.length : Int) ≤ x29 then (some (false, (x29, 1))) else ((atI p1 x29).bind fun y33 => if y33 = a12_0 then (some (true, (wr (x29 + 1), 0))) else (some (false, (x29, 1))))
def go_law15_shows (p0 : netNetint) (p1 : List Int) (p2 : Int) : Option Bool :=
  (go_net_Net_int_All p0).bind fun y9 => (go_net_Net_int_All_c1 (yw (go_law15_shows.z1 p1)) (0, 0) p0).bind fun (x29, yj12) => if yj12 = 0 then (if x29 = (p1.length : Int) then ((go_net_Net_int_Len p0).bind fun y40 => if y40 = x29 then ((go_net_Net_int_Lost p0).bind fun y42 => some (decide (y42 = p2))) else (some false)) else (some false)) else (if yj12 = 1 then (some false) else (none))
set_option maxRecDepth 100000 in
set_option maxHeartbeats 4000000 in
theorem go_law15_shows.walk {w0 w : World} {X : List Res} {z0 : Zp} {p0 : netNetint} {g0 : Nat} {A1 : Option Addr} {c1 : Nat} {d1 : List Value} {p1 : List Int} {A3 : Option Addr} {c3 : Nat} {p2 : Int} {r : Bool} (hst : Ht w0 (frz z0 :: (blk g0 [.slice A1 p0.wait_.length c1, vi p0.lost_] 43) :: (orow 3 1 (.slice A1 p0.wait_.length c1) p0.wait_.length d1) :: X) w) (f1 : Cs tI z0 d1 p0.wait_) (f3 : Sl tI z0 A3 c3 p1) (hf : go_law15_shows p0 p1 p2 = some r) :
    Calls Try.prog 23 #[.pointer (some ⟨g0, 0, none⟩), .slice A3 p1.length c3, vi p2] w fun e w' => ∃ (z' : Zp), e = .returned (vb r) ∧ Le z0 z' ∧ Ht w0 (frz z' :: (blk g0 [.slice A1 p0.wait_.length c1, vi p0.lost_] 43) :: (orow 3 1 (.slice A1 p0.wait_.length c1) p0.wait_.length d1) :: X) w' := by
  refine calls_np Try.func23 rfl rfl ?_
  have hle0 := Le.refl z0
  unfold go_law15_shows at hf
  refine Run.seq ?_
  refine Run.region ?_
  refine Ops.boxF [.slice A3 p1.length c3] hst rfl rfl rfl (fun g5 w5 hst5 => ?_)
  refine Ops.allocF [vb false] hst5 zr4 rfl rfl (fun g6 w6 hst6 => ?_)
  refine Ops.nil ?_
  refine Run.seq ?_
  refine Run.region ?_
  refine Ops.allocF [vi 0] hst6 zr3 rfl rfl (fun g7 w7 hst7 => ?_)
  refine Ops.store 1 [vi 0] hst7 rfl rfl rfl rfl sz3 rfl (by simp [Value.oneCell']) (by simp) (fun w8 hst8 => ?_)
  refine Ops.nil ?_
  refine Run.seq ?_
  refine Run.seq ?_
  refine Run.region ?_
  refine Ops.ex (Ex.move rfl) rfl rfl rfl ?_
  obtain ⟨y9, hy9, hf⟩ := bnd hf
  refine Ops.call rfl rfl Try.func29 (by kernel_rfl) (by kernel_rfl) rfl (go_net_Net_int_All.walk (p0 := p0) (hst := (St.up (St.up (St.up (St.up (St.up (St.up hst8 3 rfl) 3 rfl) 3 rfl) 5 rfl) 5 rfl) 5 rfl)) (f1 := f1) (hf := hy9)) ?_
  rintro _ w9 ⟨z9, g10, rfl, hz9, hst9⟩
  refine ⟨_, rfl, ?_⟩
  replace f3 := f3.mono hz9; replace f1 := f1.mono hz9
  replace hle0 := hle0.trans hz9
  refine Ops.nil ?_
  refine Run.block ?_
  have hm11 := Le.refl z9
  obtain ⟨⟨ys12, yj12⟩, hy12, hf⟩ := bnd hf
  try dsimp only at hf
  refine Run.rangeZ (fun (s_ : Int) (z28 : Zp) (Hs_ : List Res) => ∃ (x29 : Int), x29 = s_ ∧ Le z9 z28 ∧ Le z0 z28 ∧ Hs_ = [blk g7 [vi x29] 3, blk g6 [vb false] 4, blk g5 [.slice A3 p1.length c3] 41]) (fun z a vs => vs = [vi a]) (go_law15_shows.z1 p1) (fun | 1 => Code.ret | _ => Code.skip) rfl rfl Try.func37 (by kernel_rfl) (by kernel_rfl) ?_ rfl (s0 := 0) (s1 := ys12) (j1 := yj12) (Hs := [blk g7 [vi 0] 3, blk g6 [vb false] 4, blk g5 [.slice A3 p1.length c3] 41]) (X := (blk g10 [.pointer (some ⟨g0, 0, none⟩)] 40 :: blk g0 [.slice A1 p0.wait_.length c1, vi p0.lost_] 43 :: orow 3 1 (.slice A1 p0.wait_.length c1) p0.wait_.length d1 :: X)) ⟨0, rfl, hm11, hle0, rfl⟩ (St.up (St.up (St.up (St.up (St.up (St.up (St.up hst9 2 rfl) 2 rfl) 3 rfl) 6 rfl) 6 rfl) 6 rfl) 6 rfl) ?_ ?_ ?_ ?_
  · rintro _ _ _ rfl
    rfl
  · intro l_ J_ W_ Hs_ hY_ hJ_ hst_
    refine (go_net_Net_int_All_c1.walk (yield := yw (go_law15_shows.z1 p1)) (s0 := (0, 0)) (q0 := p0) (hst := St.swp (M := Hs_) (Hs := [blk g10 [.pointer (some ⟨g0, 0, none⟩)] 40, blk g0 [.slice A1 p0.wait_.length c1, vi p0.lost_] 43, orow 3 1 (.slice A1 p0.wait_.length c1) p0.wait_.length d1]) (X := X) hst_) (Hs0 := Hs_) (X := X) (hY := hY_) (hJ0 := hJ_) (f1 := f1) (hf := hy12)).mono ?_
    rintro _ W'_ ⟨z'_, Hs30, rfl, hl_, hJ30, hst'_⟩
    exact ⟨⟨_, rfl⟩, z'_, _, hl_, hJ30, St.swp (M := [blk g10 [.pointer (some ⟨g0, 0, none⟩)] 40, blk g0 [.slice A1 p0.wait_.length c1, vi p0.lost_] 43, orow 3 1 (.slice A1 p0.wait_.length c1) p0.wait_.length d1]) (Hs := Hs30) hst'_⟩
  · rintro s_ ar12 vs_ z1_ zr12 Hs_ Y_ l_ W_ rr_ ⟨x29, rfl, hm12_0, hm12_1, rfl⟩ hz12 hA_ hf hst12
    obtain ⟨a12_0, rfl⟩ : ∃ q, q = ar12 := ⟨_, rfl⟩
    obtain rfl := hA_
    replace f3 := f3.mono (hm12_0.trans hz12)
    replace hm12_0 := hm12_0.trans hz12; replace hm12_1 := hm12_1.trans hz12
    unfold go_law15_shows.z1 at hf
    try dsimp only at hf
    have hzz12 := Le.refl zr12
    replace hst12 : Ht w0 (frz zr12 :: (blk g7 [vi x29] 3) :: (blk g6 [vb false] 4) :: (blk g5 [.slice A3 p1.length c3] 41) :: Y_) _ := hst12
    refine Run.region ?_
    refine Ops.ex (Ex.assign rfl) rfl rfl rfl ?_
    refine Ops.nil ?_
    refine Run.stop ⟨hst12, fun Y12 W31 hst31 => ?_⟩
    replace hst31 : Ht w0 (frz zr12 :: (blk g7 [vi x29] 3) :: (blk g6 [vb false] 4) :: (blk g5 [.slice A3 p1.length c3] 41) :: Y12) _ := hst31
    refine Run.block ?_
    refine Run.seq ?_
    refine Run.seq ?_
    refine Run.region ?_
    refine Ops.load rfl Try.underlying3 rfl (hst31.cell (i := 1) rfl rfl) rfl ?_
    refine Ops.load rfl Try.underlying41 rfl (hst31.cell (i := 3) rfl rfl) rfl ?_
    refine Ops.ex (Ex.len' rfl rfl rfl Try.underlying41) rfl rfl rfl ?_
    refine Ops.ex (Ex.geq rfl rfl) rfl rfl rfl ?_
    refine Ops.ex (Ex.move rfl) rfl rfl rfl ?_
    refine Ops.case 16 rfl (fun hc => ?_) (fun hc => ?_)
    · replace hf := ifT (dec_T hc) hf
      refine Ops.off rfl rfl ?_
      refine Ops.off rfl rfl ?_
      refine Ops.off rfl rfl ?_
      refine Ops.off rfl rfl ?_
      refine Ops.off rfl rfl ?_
      refine Ops.off rfl rfl ?_
      refine Ops.ex (Ex.pickT rfl rfl) rfl rfl rfl ?_
      refine Ops.nil ?_
      refine Run.condT rfl rfl ?_
      refine Run.seq ?_
      refine Run.region ?_
      refine Ops.store 2 [vb false] hst31 rfl rfl rfl rfl sz4 rfl (by simp [Value.oneCell']) (by simp) (fun w32 hst32 => ?_)
      refine Ops.nil ?_
      obtain rfl := Option.some.inj hf
      exact Run.retZ rfl (Nat.succ_ne_zero _) rfl (Le.refl _) ⟨x29, rfl, hm12_0, hm12_1, rfl⟩ hst32
    · replace hf := ifF (dec_F hc) hf
      refine Ops.on rfl ?_
      refine Ops.load rfl Try.underlying41 rfl (hst31.cell (i := 3) rfl rfl) rfl ?_
      refine Ops.on rfl ?_
      refine Ops.load rfl Try.underlying3 rfl (hst31.cell (i := 1) rfl rfl) rfl ?_
      refine Ops.on rfl ?_
      obtain ⟨y33, hy33, hf⟩ := bnd hf
      obtain ⟨g35, p35, o35, cs35, hA35, ho35, hr35, f35⟩ := SlH.elem f3.toH hy33
      obtain rfl := hr35
      refine Ops.ex (Ex.ixA hA35 ho35 hy33 rfl rfl rfl Try.underlying41 sz3) rfl rfl rfl ?_
      refine Ops.on rfl ?_
      refine Ops.load rfl Try.underlying3 rfl ((f35.mono hst31.le) 0 _ rfl) rfl ?_
      refine Ops.on rfl ?_
      refine Ops.ex (Ex.move rfl) rfl rfl rfl ?_
      refine Ops.on rfl ?_
      refine Ops.ex (Ex.neqI rfl rfl) rfl rfl rfl ?_
      refine Ops.ex (Ex.pickF rfl rfl) rfl rfl rfl ?_
      refine Ops.nil ?_
      refine Run.cond rfl (fun hc => ?_) (fun hc => ?_)
      · replace hf := ifF (neq_T hc) hf
        refine Run.seq ?_
        refine Run.region ?_
        refine Ops.store 2 [vb false] hst31 rfl rfl rfl rfl sz4 rfl (by simp [Value.oneCell']) (by simp) (fun w36 hst36 => ?_)
        refine Ops.nil ?_
        obtain rfl := Option.some.inj hf
        exact Run.retZ rfl (Nat.succ_ne_zero _) rfl (Le.refl _) ⟨x29, rfl, hm12_0, hm12_1, rfl⟩ hst36
      · replace hf := ifT (neq_F hc) hf
        refine Run.skip ?_
        refine Run.region ?_
        refine Ops.load rfl Try.underlying3 rfl (hst31.cell (i := 1) rfl rfl) rfl ?_
        refine Ops.ex (Ex.add rfl rfl) rfl rfl rfl ?_
        refine Ops.store 1 [vi (wr (x29 + 1))] hst31 rfl rfl rfl rfl sz3 rfl (by simp [Value.oneCell']) (by simp) (fun w37 hst37 => ?_)
        refine Ops.nil ?_
        refine Run.endBlk ?_
        obtain rfl := Option.some.inj hf
        exact Run.endZ rfl rfl (Le.refl _) ⟨wr (x29 + 1), rfl, hm12_0, hm12_1, rfl⟩ hst37
  · rintro z1_ zd12 Hs_ D12 W_ h0 ⟨x29, rfl, hm12_0, hm12_1, rfl⟩ hz12 hzd hst12
    replace f3 := f3.mono (hm12_0.trans hz12)
    replace hm12_0 := hm12_0.trans hz12; replace hm12_1 := hm12_1.trans hz12
    replace f1 := f1.mono hzd
    have hst12' : Ht w0 (frz zd12 :: (blk g7 [vi x29] 3) :: (blk g6 [vb false] 4) :: (blk g5 [.slice A3 p1.length c3] 41) :: ob D12 (.deferred (some [])) :: (blk g10 [.pointer (some ⟨g0, 0, none⟩)] 40) :: (blk g0 [.slice A1 p0.wait_.length c1, vi p0.lost_] 43) :: (orow 3 1 (.slice A1 p0.wait_.length c1) p0.wait_.length d1) :: X) _ := hst12
    try dsimp only at hf
    replace hf := ifT h0 hf
    refine Run.endBlk ?_
    refine Run.seq ?_
    have hm39 := Le.refl zd12
    refine Run.drawH [([], fun w => ∃ ζ Y, Le zd12 ζ ∧ Ht w0 (frz ζ :: (blk g7 [vi x29] 3) :: (blk g5 [.slice A3 p1.length c3] 41) :: (blk g10 [.pointer (some ⟨g0, 0, none⟩)] 40) :: Y) w), ([6, 12, 16], fun w => ∃ ζ Y, Le zd12 ζ ∧ Ht w0 (frz ζ :: (blk g0 [.slice A1 p0.wait_.length c1, vi p0.lost_] 43) :: Y) w), ([6, 12, 16], fun w => ∃ ζ Y, Le zd12 ζ ∧ Ht w0 (frz ζ :: (orow 3 1 (.slice A1 p0.wait_.length c1) p0.wait_.length d1) :: Y) w), ([16], fun w => ∃ ζ Y, Le zd12 ζ ∧ Ht w0 (frz ζ :: (blk g6 [vb false] 4) :: Y) w)] (by kernel_rfl) hst12' (fun w38 hst38 => ?_)
    have hS0 := (⟨_, _, (Le.refl _), (St.up (St.up (St.up (St.up hst38 5 rfl) 4 rfl) 3 rfl) 3 rfl)⟩ : (fun w => ∃ ζ Y, Le zd12 ζ ∧ Ht w0 (frz ζ :: (blk g7 [vi x29] 3) :: (blk g5 [.slice A3 p1.length c3] 41) :: (blk g10 [.pointer (some ⟨g0, 0, none⟩)] 40) :: Y) w) _)
    have hS1 := (⟨_, _, (Le.refl _), (St.up (St.up hst38 6 rfl) 1 rfl)⟩ : (fun w => ∃ ζ Y, Le zd12 ζ ∧ Ht w0 (frz ζ :: (blk g0 [.slice A1 p0.wait_.length c1, vi p0.lost_] 43) :: Y) w) _)
    have hS2 := (⟨_, _, (Le.refl _), (St.up (St.up hst38 7 rfl) 1 rfl)⟩ : (fun w => ∃ ζ Y, Le zd12 ζ ∧ Ht w0 (frz ζ :: (orow 3 1 (.slice A1 p0.wait_.length c1) p0.wait_.length d1) :: Y) w) _)
    have hS3 := (⟨_, _, (Le.refl _), (St.up (St.up hst38 2 rfl) 1 rfl)⟩ : (fun w => ∃ ζ Y, Le zd12 ζ ∧ Ht w0 (frz ζ :: (blk g6 [vb false] 4) :: Y) w) _)
    refine Any.take 0 0 rfl rfl rfl rfl rfl (by kernel_rfl) (fun _ _ _ _ _ h => h) (ExS.load rfl Try.underlying3 rfl (fun w hS => by obtain ⟨_, _, _, hs⟩ := hS; exact hs.cell (i := 1) rfl rfl)) hS0 ?_
    refine Any.take 0 1 rfl rfl rfl rfl rfl (by kernel_rfl) (fun _ _ _ _ _ h => h) (ExS.load rfl Try.underlying41 rfl (fun w hS => by obtain ⟨_, _, _, hs⟩ := hS; exact hs.cell (i := 2) rfl rfl)) hS0 ?_
    refine Any.takeE 2 rfl rfl rfl rfl (by kernel_rfl) (fun _ _ _ _ _ h => h) ((Ex.len' rfl rfl rfl Try.underlying41).s) ?_
    refine Any.takeE 3 rfl rfl rfl rfl (by kernel_rfl) (fun _ _ _ _ _ h => h) ((Ex.eqlI rfl rfl).s) ?_
    refine Any.takeE 4 rfl rfl rfl rfl (by kernel_rfl) (fun _ _ _ _ _ h => h) ((Ex.move rfl).s) ?_
    refine Any.case 30 rfl (fun hc => ?_) (fun hc => ?_)
    · replace hf := ifT (dec_T hc) hf
      refine Any.takeE 5 rfl rfl rfl rfl (by kernel_rfl) (fun _ _ _ _ _ h => h) (ExS.g ((Ex.move rfl).s)) ?_
      refine Any.take 0 7 rfl rfl rfl rfl rfl (by kernel_rfl) (fun _ _ _ _ _ h => h) (ExS.g (ExS.load rfl Try.underlying3 rfl (fun w hS => by obtain ⟨_, _, _, hs⟩ := hS; exact hs.cell (i := 1) rfl rfl))) hS0 ?_
      obtain ⟨y40, hy40, hf⟩ := bnd hf
      refine Any.one 6 (by kernel_rfl) rfl rfl (One.g <| One.of_ops rfl ?_)
      refine Ops.call rfl rfl Try.func30 (by kernel_rfl) (by kernel_rfl) rfl (go_net_Net_int_Len.walk (p0 := p0) (hst := (St.up (St.up (St.up (St.up (St.up (St.up (St.up (St.up hst38 5 rfl) 5 rfl) 5 rfl) 5 rfl) 5 rfl) 7 rfl) 7 rfl) 7 rfl)) (f1 := f1) (hf := hy40)) ?_
      rintro _ w40 ⟨z40, rfl, hz40, hst40⟩
      refine ⟨_, rfl, Ops.stop ?_⟩
      replace f3 := f3.mono hz40; replace f1 := f1.mono hz40
      replace hm12_0 := hm12_0.trans hz40
      replace hm12_1 := hm12_1.trans hz40
      replace hm39 := hm39.trans hz40
      have hS0 := (⟨_, _, hm39, (St.up (St.up (St.up (St.up hst40 7 rfl) 6 rfl) 5 rfl) 3 rfl)⟩ : (fun w => ∃ ζ Y, Le zd12 ζ ∧ Ht w0 (frz ζ :: (blk g7 [vi x29] 3) :: (blk g5 [.slice A3 p1.length c3] 41) :: (blk g10 [.pointer (some ⟨g0, 0, none⟩)] 40) :: Y) w) _)
      have hS3 := (⟨_, _, hm39, (St.up (St.up hst40 4 rfl) 1 rfl)⟩ : (fun w => ∃ ζ Y, Le zd12 ζ ∧ Ht w0 (frz ζ :: (blk g6 [vb false] 4) :: Y) w) _)
      refine ⟨⟨.inr (fun _ => hS0), .inl (by decide), .inl (by decide), .inr (fun _ => hS3), trivial⟩, ?_⟩
      refine Any.takeE 8 rfl rfl rfl rfl (by kernel_rfl) (fun _ _ _ _ _ h => h) (ExS.g ((Ex.eqlI rfl rfl).s)) ?_
      refine Any.takeE 9 rfl rfl rfl rfl (by kernel_rfl) (fun _ _ _ _ _ h => h) ((Ex.pickT rfl rfl).s) ?_
      refine Any.takeE 10 rfl rfl rfl rfl (by kernel_rfl) (fun _ _ _ _ _ h => h) ((Ex.move rfl).s) ?_
      refine Any.case 36 rfl (fun hc => ?_) (fun hc => ?_)
      · replace hf := ifT (dec_T hc) hf
        refine Any.takeE 11 rfl rfl rfl rfl (by kernel_rfl) (fun _ _ _ _ _ h => h) (ExS.g ((Ex.move rfl).s)) ?_
        refine Any.takeE 13 rfl rfl rfl rfl (by kernel_rfl) (fun _ _ _ _ _ h => h) (ExS.g ((Ex.move rfl).s)) ?_
        obtain ⟨y42, hy42, hf⟩ := bnd hf
        refine Any.one 12 (by kernel_rfl) rfl rfl (One.g <| One.of_ops rfl ?_)
        refine Ops.call rfl rfl Try.func31 (by kernel_rfl) (by kernel_rfl) rfl (go_net_Net_int_Lost.walk (p0 := p0) (hst := hst40) (f1 := f1) (hf := hy42)) ?_
        rintro _ w42 ⟨z42, rfl, hz42, hst42⟩
        refine ⟨_, rfl, Ops.stop ?_⟩
        replace f3 := f3.mono hz42; replace f1 := f1.mono hz42
        replace hm12_0 := hm12_0.trans hz42
        replace hm12_1 := hm12_1.trans hz42
        replace hm39 := hm39.trans hz42
        have hS0 := (⟨_, _, hm39, (St.up (St.up (St.up (St.up hst42 7 rfl) 6 rfl) 5 rfl) 3 rfl)⟩ : (fun w => ∃ ζ Y, Le zd12 ζ ∧ Ht w0 (frz ζ :: (blk g7 [vi x29] 3) :: (blk g5 [.slice A3 p1.length c3] 41) :: (blk g10 [.pointer (some ⟨g0, 0, none⟩)] 40) :: Y) w) _)
        have hS3 := (⟨_, _, hm39, (St.up (St.up hst42 4 rfl) 1 rfl)⟩ : (fun w => ∃ ζ Y, Le zd12 ζ ∧ Ht w0 (frz ζ :: (blk g6 [vb false] 4) :: Y) w) _)
        refine ⟨⟨.inr (fun _ => hS0), .inl (by decide), .inl (by decide), .inr (fun _ => hS3), trivial⟩, ?_⟩
        refine Any.takeE 14 rfl rfl rfl rfl (by kernel_rfl) (fun _ _ _ _ _ h => h) (ExS.g ((Ex.eqlI rfl rfl).s)) ?_
        refine Any.takeE 15 rfl rfl rfl rfl (by kernel_rfl) (fun _ _ _ _ _ h => h) ((Ex.pickT rfl rfl).s) ?_
        refine Any.one 16 (by kernel_rfl) rfl rfl (One.of_ops rfl ?_)
        refine Ops.store 4 [vb (decide (y42 = p2))] hst42 rfl rfl rfl rfl sz4 rfl (by simp [Value.oneCell']) (by simp) (fun w44 hst44 => Ops.stop ?_)
        have hS0 := (⟨_, _, hm39, (St.up (St.up (St.up (St.up hst44 7 rfl) 6 rfl) 5 rfl) 3 rfl)⟩ : (fun w => ∃ ζ Y, Le zd12 ζ ∧ Ht w0 (frz ζ :: (blk g7 [vi x29] 3) :: (blk g5 [.slice A3 p1.length c3] 41) :: (blk g10 [.pointer (some ⟨g0, 0, none⟩)] 40) :: Y) w) _)
        refine ⟨⟨.inr (fun _ => hS0), .inl (by decide), .inl (by decide), .inl (by decide), trivial⟩, ?_⟩
        refine Any.done (by kernel_rfl) ?_
        obtain ⟨hD45, hst45⟩ := St.shutD hst44 6 rfl
        have hst45 : Ht w0 (frz z42 :: (blk g0 [.slice A1 p0.wait_.length c1, vi p0.lost_] 43) :: (orow 3 1 (.slice A1 p0.wait_.length c1) p0.wait_.length d1) :: (blk g7 [vi x29] 3) :: (blk g6 [vb (decide (y42 = p2))] 4) :: (blk g5 [.slice A3 p1.length c3] 41) :: ob D12 (.deferred none) :: (blk g10 [.pointer (some ⟨g0, 0, none⟩)] 40) :: X) _ := hst45
        obtain rfl := Option.some.inj hf
        exact Run.retW [vb (decide (y42 = p2))] (Shut.cons hD45 (Shut.nil _)) ⟨⟨_, rfl, run_load1 Try.underlying4 rfl (hst45.cell (i := 4) rfl rfl)⟩, trivial⟩ ⟨z42, rfl, hm12_1, (St.forget (St.forget (St.forget (St.forget (St.forget hst45 7) 6) 5) 4) 3)⟩
      · replace hf := ifF (dec_F hc) hf
        refine Any.pass 11 rfl rfl rfl rfl (by kernel_rfl) (fun _ _ _ _ _ h => h) ?_
        refine Any.pass 12 rfl rfl rfl rfl (by kernel_rfl) (fun _ _ _ _ _ h => h) ?_
        refine Any.pass 13 rfl rfl rfl rfl (by kernel_rfl) (fun _ _ _ _ _ h => h) ?_
        refine Any.pass 14 rfl rfl rfl rfl (by kernel_rfl) (fun _ _ _ _ _ h => h) ?_
        refine Any.takeE 15 rfl rfl rfl rfl (by kernel_rfl) (fun _ _ _ _ _ h => h) ((Ex.pickF rfl rfl).s) ?_
        refine Any.one 16 (by kernel_rfl) rfl rfl (One.of_ops rfl ?_)
        refine Ops.store 4 [vb false] hst40 rfl rfl rfl rfl sz4 rfl (by simp [Value.oneCell']) (by simp) (fun w46 hst46 => Ops.stop ?_)
        have hS0 := (⟨_, _, hm39, (St.up (St.up (St.up (St.up hst46 7 rfl) 6 rfl) 5 rfl) 3 rfl)⟩ : (fun w => ∃ ζ Y, Le zd12 ζ ∧ Ht w0 (frz ζ :: (blk g7 [vi x29] 3) :: (blk g5 [.slice A3 p1.length c3] 41) :: (blk g10 [.pointer (some ⟨g0, 0, none⟩)] 40) :: Y) w) _)
        refine ⟨⟨.inr (fun _ => hS0), .inl (by decide), .inl (by decide), .inl (by decide), trivial⟩, ?_⟩
        refine Any.done (by kernel_rfl) ?_
        obtain ⟨hD47, hst47⟩ := St.shutD hst46 6 rfl
        have hst47 : Ht w0 (frz z40 :: (blk g0 [.slice A1 p0.wait_.length c1, vi p0.lost_] 43) :: (orow 3 1 (.slice A1 p0.wait_.length c1) p0.wait_.length d1) :: (blk g7 [vi x29] 3) :: (blk g6 [vb false] 4) :: (blk g5 [.slice A3 p1.length c3] 41) :: ob D12 (.deferred none) :: (blk g10 [.pointer (some ⟨g0, 0, none⟩)] 40) :: X) _ := hst47
        obtain rfl := Option.some.inj hf
        exact Run.retW [vb false] (Shut.cons hD47 (Shut.nil _)) ⟨⟨_, rfl, run_load1 Try.underlying4 rfl (hst47.cell (i := 4) rfl rfl)⟩, trivial⟩ ⟨z40, rfl, hm12_1, (St.forget (St.forget (St.forget (St.forget (St.forget hst47 7) 6) 5) 4) 3)⟩
    · replace hf := ifF (dec_F hc) hf
      refine Any.pass 5 rfl rfl rfl rfl (by kernel_rfl) (fun _ _ _ _ _ h => h) ?_
      refine Any.pass 6 rfl rfl rfl rfl (by kernel_rfl) (fun _ _ _ _ _ h => h) ?_
      refine Any.pass 7 rfl rfl rfl rfl (by kernel_rfl) (fun _ _ _ _ _ h => h) ?_
      refine Any.pass 8 rfl rfl rfl rfl (by kernel_rfl) (fun _ _ _ _ _ h => h) ?_
      refine Any.takeE 9 rfl rfl rfl rfl (by kernel_rfl) (fun _ _ _ _ _ h => h) ((Ex.pickF rfl rfl).s) ?_
      refine Any.takeE 10 rfl rfl rfl rfl (by kernel_rfl) (fun _ _ _ _ _ h => h) ((Ex.move rfl).s) ?_
      refine Any.pass 11 rfl rfl rfl rfl (by kernel_rfl) (fun _ _ _ _ _ h => h) ?_
      refine Any.pass 12 rfl rfl rfl rfl (by kernel_rfl) (fun _ _ _ _ _ h => h) ?_
      refine Any.pass 13 rfl rfl rfl rfl (by kernel_rfl) (fun _ _ _ _ _ h => h) ?_
      refine Any.pass 14 rfl rfl rfl rfl (by kernel_rfl) (fun _ _ _ _ _ h => h) ?_
      refine Any.takeE 15 rfl rfl rfl rfl (by kernel_rfl) (fun _ _ _ _ _ h => h) ((Ex.pickF rfl rfl).s) ?_
      refine Any.one 16 (by kernel_rfl) rfl rfl (One.of_ops rfl ?_)
      refine Ops.store 2 [vb false] hst38 rfl rfl rfl rfl sz4 rfl (by simp [Value.oneCell']) (by simp) (fun w48 hst48 => Ops.stop ?_)
      have hS0 := (⟨_, _, (Le.refl _), (St.up (St.up (St.up (St.up hst48 5 rfl) 4 rfl) 3 rfl) 3 rfl)⟩ : (fun w => ∃ ζ Y, Le zd12 ζ ∧ Ht w0 (frz ζ :: (blk g7 [vi x29] 3) :: (blk g5 [.slice A3 p1.length c3] 41) :: (blk g10 [.pointer (some ⟨g0, 0, none⟩)] 40) :: Y) w) _)
      refine ⟨⟨.inr (fun _ => hS0), .inl (by decide), .inl (by decide), .inl (by decide), trivial⟩, ?_⟩
      refine Any.done (by kernel_rfl) ?_
      obtain ⟨hD49, hst49⟩ := St.shutD hst48 4 rfl
      have hst49 : Ht w0 (frz zd12 :: (blk g7 [vi x29] 3) :: (blk g6 [vb false] 4) :: (blk g5 [.slice A3 p1.length c3] 41) :: ob D12 (.deferred none) :: (blk g10 [.pointer (some ⟨g0, 0, none⟩)] 40) :: (blk g0 [.slice A1 p0.wait_.length c1, vi p0.lost_] 43) :: (orow 3 1 (.slice A1 p0.wait_.length c1) p0.wait_.length d1) :: X) _ := hst49
      obtain rfl := Option.some.inj hf
      exact Run.retW [vb false] (Shut.cons hD49 (Shut.nil _)) ⟨⟨_, rfl, run_load1 Try.underlying4 rfl (hst49.cell (i := 2) rfl rfl)⟩, trivial⟩ ⟨zd12, rfl, hm12_1, (St.forget (St.forget (St.forget (St.forget (St.forget hst49 5) 4) 3) 2) 1)⟩
  · rintro z1_ zd12 Hs_ D12 W_ h0 ⟨x29, rfl, hm12_0, hm12_1, rfl⟩ hz12 hzd hst12
    replace f3 := f3.mono (hm12_0.trans hz12)
    replace hm12_0 := hm12_0.trans hz12; replace hm12_1 := hm12_1.trans hz12
    replace f1 := f1.mono hzd
    have hst12' : Ht w0 (frz zd12 :: (blk g7 [vi x29] 3) :: (blk g6 [vb false] 4) :: (blk g5 [.slice A3 p1.length c3] 41) :: ob D12 (.deferred (some [])) :: (blk g10 [.pointer (some ⟨g0, 0, none⟩)] 40) :: (blk g0 [.slice A1 p0.wait_.length c1, vi p0.lost_] 43) :: (orow 3 1 (.slice A1 p0.wait_.length c1) p0.wait_.length d1) :: X) _ := hst12
    try dsimp only at hf
    replace hf := ifF h0 hf
    by_cases hj0 : yj12 = 1
    · subst hj0
      replace hf := ifT rfl hf
      show Run _ _ _ (.code (Code.ret) :: _) _ _
      obtain ⟨hD50, hst50⟩ := St.shutD hst12' 4 rfl
      have hst50 : Ht w0 (frz zd12 :: (blk g7 [vi x29] 3) :: (blk g6 [vb false] 4) :: (blk g5 [.slice A3 p1.length c3] 41) :: ob D12 (.deferred none) :: (blk g10 [.pointer (some ⟨g0, 0, none⟩)] 40) :: (blk g0 [.slice A1 p0.wait_.length c1, vi p0.lost_] 43) :: (orow 3 1 (.slice A1 p0.wait_.length c1) p0.wait_.length d1) :: X) _ := hst50
      obtain rfl := Option.some.inj hf
      exact Run.retW [vb false] (Shut.cons hD50 (Shut.nil _)) ⟨⟨_, rfl, run_load1 Try.underlying4 rfl (hst50.cell (i := 2) rfl rfl)⟩, trivial⟩ ⟨zd12, rfl, hm12_1, (St.forget (St.forget (St.forget (St.forget (St.forget hst50 5) 4) 3) 2) 1)⟩
    · replace hf := ifF hj0 hf
      cases hf
end Go.Proofs.Ytiijlkebolfcpaa.N1
