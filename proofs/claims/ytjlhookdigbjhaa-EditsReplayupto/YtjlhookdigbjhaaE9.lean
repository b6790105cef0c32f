/- Edits: frame. -/
import Derived.Test.YtjlhookdigbjhaaE8
namespace Go.Proofs.Ytjlhookdigbjhaa.E9
open Go Go.RowKit Go.Proofs.Ytjlhookdigbjhaa.Sx Go.Proofs.Ytjlhookdigbjhaa.E1 Go.Proofs.Ytjlhookdigbjhaa.E2 Go.Proofs.Ytjlhookdigbjhaa.E3 Go.Proofs.Ytjlhookdigbjhaa.E4 Go.Proofs.Ytjlhookdigbjhaa.E5 Go.Proofs.Ytjlhookdigbjhaa.E6 Go.Proofs.Ytjlhookdigbjhaa.E7 Go.Proofs.Ytjlhookdigbjhaa.E8
set_option linter.unusedVariables false
set_option linter.unusedSimpArgs false
noncomputable section
theorem zr53 : (Try.prog.info? 53).map (·.zero) = some (some (.slice none 0 0)) := by kernel_rfl
theorem zr3 : (Try.prog.info? 3).map (·.zero) = some (some (.int .i64 0)) := by kernel_rfl
theorem sz53 : (Try.prog.info? 53).map (·.size) = some 1 := by kernel_rfl
def go_frame_number (p0 : List UInt8) : Option Int :=
  (atI p0 0).bind fun y3 => (atI p0 1).bind fun y6 => (atI p0 2).bind fun y9 => (atI p0 3).bind fun y12 => some (orI (orI (orI (wr ((y3.toNat : Int) * 16777216)) (wr ((y6.toNat : Int) * 65536))) (wr ((y9.toNat : Int) * 256))) (y12.toNat : Int))
set_option maxRecDepth 100000 in
set_option maxHeartbeats 4000000 in
theorem go_frame_number.walk {w0 w : World} {X : List Res} {z0 : Zp} {p0 : List UInt8} {A1 : Option Addr} {c1 : Nat} {r : Int} (hst : Ht w0 (frz z0 :: X) w) (f1 : Sl tU8 z0 A1 c1 p0) (hf : go_frame_number p0 = some r) :
    Calls Try.prog 54 #[.slice A1 p0.length c1] w fun e w' => ∃ (z' : Zp), e = .returned (vi r) ∧ Le z0 z' ∧ Ht w0 (frz z' :: X) w' := by
  refine calls_np Try.func54 rfl rfl ?_
  have hle0 := Le.refl z0
  unfold go_frame_number at hf
  refine Run.seq ?_
  refine Run.region ?_
  refine Ops.ex (Ex.assign rfl) rfl rfl rfl ?_
  refine Ops.nil ?_
  refine Run.seq ?_
  refine Run.drawH [([], fun w => ∃ ζ Y, Le z0 ζ ∧ Ht w0 (frz ζ :: Y) w)] (by kernel_rfl) hst (fun w2 hst2 => ?_)
  have hS0 := (⟨_, _, (Le.refl _), hst2⟩ : (fun w => ∃ ζ Y, Le z0 ζ ∧ Ht w0 (frz ζ :: Y) w) _)
  refine Any.takeE 0 rfl rfl rfl rfl (by kernel_rfl) (fun _ _ _ _ _ h => h) ((Ex.move rfl).s) ?_
  obtain ⟨y3, hy3, hf⟩ := bnd hf
  obtain ⟨g5, p5, o5, cs5, hA5, ho5, hr5, f5⟩ := SlH.elem f1.toH hy3
  obtain rfl := hr5
  refine Any.takeE 1 rfl rfl rfl rfl (by kernel_rfl) (fun _ _ _ _ _ h => h) ((Ex.ixA hA5 ho5 hy3 rfl rfl rfl Try.underlying30 sz5).s) ?_
  refine Any.take 0 2 rfl rfl rfl rfl rfl (by kernel_rfl) (fun _ _ _ _ _ h => h) (ExS.load rfl Try.underlying5 rfl (fun w hS => by obtain ⟨_, _, hz, hs⟩ := hS; exact (f5.mono (hz.trans hs.le)) 0 _ rfl)) hS0 ?_
  refine Any.takeE 3 rfl rfl rfl rfl (by kernel_rfl) (fun _ _ _ _ _ h => h) ((Ex.cu8 rfl Try.underlying5 Try.underlying3).s) ?_
  refine Any.takeE 4 rfl rfl rfl rfl (by kernel_rfl) (fun _ _ _ _ _ h => h) ((Ex.shlC (m := 16777216) rfl rfl (by decide) (by decide)).s) ?_
  refine Any.takeE 5 rfl rfl rfl rfl (by kernel_rfl) (fun _ _ _ _ _ h => h) ((Ex.move rfl).s) ?_
  obtain ⟨y6, hy6, hf⟩ := bnd hf
  obtain ⟨g8, p8, o8, cs8, hA8, ho8, hr8, f8⟩ := SlH.elem f1.toH hy6
  obtain rfl := hr8
  refine Any.takeE 6 rfl rfl rfl rfl (by kernel_rfl) (fun _ _ _ _ _ h => h) ((Ex.ixA hA8 ho8 hy6 rfl rfl rfl Try.underlying30 sz5).s) ?_
  refine Any.take 0 7 rfl rfl rfl rfl rfl (by kernel_rfl) (fun _ _ _ _ _ h => h) (ExS.load rfl Try.underlying5 rfl (fun w hS => by obtain ⟨_, _, hz, hs⟩ := hS; exact (f8.mono (hz.trans hs.le)) 0 _ rfl)) hS0 ?_
  refine Any.takeE 8 rfl rfl rfl rfl (by kernel_rfl) (fun _ _ _ _ _ h => h) ((Ex.cu8 rfl Try.underlying5 Try.underlying3).s) ?_
  refine Any.takeE 9 rfl rfl rfl rfl (by kernel_rfl) (fun _ _ _ _ _ h => h) ((Ex.shlC (m := 65536) rfl rfl (by decide) (by decide)).s) ?_
  refine Any.takeE 10 rfl rfl rfl rfl (by kernel_rfl) (fun _ _ _ _ _ h => h) ((Ex.orI rfl rfl).s) ?_
  refine Any.takeE 11 rfl rfl rfl rfl (by kernel_rfl) (fun _ _ _ _ _ h => h) ((Ex.move rfl).s) ?_
  obtain ⟨y9, hy9, hf⟩ := bnd hf
  obtain ⟨g11, p11, o11, cs11, hA11, ho11, hr11, f11⟩ := SlH.elem f1.toH hy9
  obtain rfl := hr11
  refine Any.takeE 12 rfl rfl rfl rfl (by kernel_rfl) (fun _ _ _ _ _ h => h) ((Ex.ixA hA11 ho11 hy9 rfl rfl rfl Try.underlying30 sz5).s) ?_
  refine Any.take 0 13 rfl rfl rfl rfl rfl (by kernel_rfl) (fun _ _ _ _ _ h => h) (ExS.load rfl Try.underlying5 rfl (fun w hS => by obtain ⟨_, _, hz, hs⟩ := hS; exact (f11.mono (hz.trans hs.le)) 0 _ rfl)) hS0 ?_
  refine Any.takeE 14 rfl rfl rfl rfl (by kernel_rfl) (fun _ _ _ _ _ h => h) ((Ex.cu8 rfl Try.underlying5 Try.underlying3).s) ?_
  refine Any.takeE 15 rfl rfl rfl rfl (by kernel_rfl) (fun _ _ _ _ _ h => h) ((Ex.shlC (m := 256) rfl rfl (by decide) (by decide)).s) ?_
  refine Any.takeE 16 rfl rfl rfl rfl (by kernel_rfl) (fun _ _ _ _ _ h => h) ((Ex.orI rfl rfl).s) ?_
  refine Any.takeE 17 rfl rfl rfl rfl (by kernel_rfl) (fun _ _ _ _ _ h => h) ((Ex.move rfl).s) ?_
  obtain ⟨y12, hy12, hf⟩ := bnd hf
  obtain ⟨g14, p14, o14, cs14, hA14, ho14, hr14, f14⟩ := SlH.elem f1.toH hy12
  obtain rfl := hr14
  refine Any.takeE 18 rfl rfl rfl rfl (by kernel_rfl) (fun _ _ _ _ _ h => h) ((Ex.ixA hA14 ho14 hy12 rfl rfl rfl Try.underlying30 sz5).s) ?_
  refine Any.take 0 19 rfl rfl rfl rfl rfl (by kernel_rfl) (fun _ _ _ _ _ h => h) (ExS.load rfl Try.underlying5 rfl (fun w hS => by obtain ⟨_, _, hz, hs⟩ := hS; exact (f14.mono (hz.trans hs.le)) 0 _ rfl)) hS0 ?_
  refine Any.takeE 20 rfl rfl rfl rfl (by kernel_rfl) (fun _ _ _ _ _ h => h) ((Ex.cu8 rfl Try.underlying5 Try.underlying3).s) ?_
  refine Any.takeE 21 rfl rfl rfl rfl (by kernel_rfl) (fun _ _ _ _ _ h => h) ((Ex.orI rfl rfl).s) ?_
  refine Any.takeE 22 rfl rfl rfl rfl (by kernel_rfl) (fun _ _ _ _ _ h => h) ((Ex.assign rfl).s) ?_
  refine Any.done (by kernel_rfl) ?_
  obtain rfl := Option.some.inj hf
  exact Run.retV [vi (orI (orI (orI (wr ((y3.toNat : Int) * 16777216)) (wr ((y6.toNat : Int) * 65536))) (wr ((y9.toNat : Int) * 256))) (y12.toNat : Int))] rfl ⟨rfl, trivial⟩ ⟨z0, rfl, hle0, hst2⟩
def go_frame_One (p0 : List UInt8) : Option (List UInt8 × Int × Int) :=
  if (p0.length : Int) < 8 then (some ([], 0, 3)) else ((go_frame_number p0).bind fun y2 => if 16384 < y2 then (some ([], 0, 1)) else (if (p0.length : Int) < wr ((wr (8 + y2)) + 1) then (some ([], 0, 3)) else ((atI p0 (wr (8 + y2))).bind fun y4 => if y4 = 229 then ((cutI p0 8 (wr (8 + y2))).bind fun l9 => (cutI p0 4 (p0.length : Int)).bind fun l10 => (go_check_Sum l9).bind fun y11 => (go_frame_number l10).bind fun y13 => if (y11.toNat : Int) = y13 then ((cutI p0 8 (wr (8 + y2))).bind fun l15 => (apB 1 [] l15).bind fun l16 => some (l16, wr ((wr (8 + y2)) + 1), 0)) else (some ([], 0, 2))) else (some ([], 0, 1)))))
set_option maxRecDepth 100000 in
set_option maxHeartbeats 4000000 in
theorem go_frame_One.walk {w0 w : World} {X : List Res} {z0 : Zp} {p0 : List UInt8} {A1 : Option Addr} {c1 : Nat} {r : List UInt8 × Int × Int} (hst : Ht w0 (frz z0 :: X) w) (f1 : Sl tU8 z0 A1 c1 p0) (hf : go_frame_One p0 = some r) :
    Calls Try.prog 46 #[.slice A1 p0.length c1] w fun e w' => ∃ (z' : Zp) (A9001 : Option Addr) (c9001 : Nat), e = .returned (.tuple #[.slice A9001 r.1.length c9001, vi r.2.1, vi r.2.2]) ∧ Le z0 z' ∧ Sl tU8 z' A9001 c9001 r.1 ∧ Ht w0 (frz z' :: X) w' := by
  refine calls_np Try.func46 rfl rfl ?_
  have hle0 := Le.refl z0
  unfold go_frame_One at hf
  refine Run.seq ?_
  refine Run.region ?_
  refine Ops.ex (Ex.assign rfl) rfl rfl rfl ?_
  refine Ops.ex (Ex.assign rfl) rfl rfl rfl ?_
  refine Ops.ex (Ex.assign rfl) rfl rfl rfl ?_
  refine Ops.nil ?_
  refine Run.seq ?_
  refine Run.seq ?_
  refine Run.region ?_
  refine Ops.ex (Ex.move rfl) rfl rfl rfl ?_
  refine Ops.ex (Ex.len' rfl rfl rfl Try.underlying30) rfl rfl rfl ?_
  refine Ops.ex (Ex.lss rfl rfl) rfl rfl rfl ?_
  refine Ops.nil ?_
  refine Run.cond rfl (fun hc => ?_) (fun hc => ?_)
  · replace hf := ifT (dec_T hc) hf
    refine Run.seq ?_
    refine Run.region ?_
    refine Ops.ex (Ex.assign rfl) rfl rfl rfl ?_
    refine Ops.ex (Ex.assign rfl) rfl rfl rfl ?_
    refine Ops.ex (Ex.assign rfl) rfl rfl rfl ?_
    refine Ops.nil ?_
    obtain rfl := Option.some.inj hf
    exact Run.retV [.slice none 0 0, vi 0, vi 3] rfl ⟨rfl, rfl, rfl, trivial⟩ ⟨z0, none, 0, rfl, hle0, (Sl.nil _ _), hst⟩
  · replace hf := ifF (dec_F hc) hf
    refine Run.skip ?_
    refine Run.seq ?_
    refine Run.region ?_
    refine Ops.ex (Ex.move rfl) rfl rfl rfl ?_
    obtain ⟨y2, hy2, hf⟩ := bnd hf
    refine Ops.call rfl rfl Try.func54 (by kernel_rfl) (by kernel_rfl) rfl (go_frame_number.walk (p0 := p0) (hst := hst) (f1 := f1) (hf := hy2)) ?_
    rintro _ w2 ⟨z2, rfl, hz2, hst2⟩
    refine ⟨_, rfl, ?_⟩
    replace f1 := f1.mono hz2
    replace hle0 := hle0.trans hz2
    refine Ops.ex (Ex.assign rfl) rfl rfl rfl ?_
    refine Ops.nil ?_
    refine Run.seq ?_
    refine Run.block ?_
    refine Run.seq ?_
    refine Run.region ?_
    refine Ops.ex (Ex.move rfl) rfl rfl rfl ?_
    refine Ops.ex (Ex.gtr rfl rfl) rfl rfl rfl ?_
    refine Ops.ex (Ex.assign rfl) rfl rfl rfl ?_
    refine Ops.nil ?_
    refine Run.cond rfl (fun hc => ?_) (fun hc => ?_)
    · replace hf := ifT (dec_T hc) hf
      refine Run.seq ?_
      refine Run.region ?_
      refine Ops.ex (Ex.assign rfl) rfl rfl rfl ?_
      refine Ops.ex (Ex.assign rfl) rfl rfl rfl ?_
      refine Ops.ex (Ex.assign rfl) rfl rfl rfl ?_
      refine Ops.nil ?_
      obtain rfl := Option.some.inj hf
      exact Run.retV [.slice none 0 0, vi 0, vi 1] rfl ⟨rfl, rfl, rfl, trivial⟩ ⟨z2, none, 0, rfl, hle0, (Sl.nil _ _), hst2⟩
    · replace hf := ifF (dec_F hc) hf
      refine Run.seq ?_
      refine Run.region ?_
      refine Ops.ex (Ex.move rfl) rfl rfl rfl ?_
      refine Ops.ex (Ex.len' rfl rfl rfl Try.underlying30) rfl rfl rfl ?_
      refine Ops.ex (Ex.move rfl) rfl rfl rfl ?_
      refine Ops.ex (Ex.add rfl rfl) rfl rfl rfl ?_
      refine Ops.ex (Ex.add rfl rfl) rfl rfl rfl ?_
      refine Ops.ex (Ex.lss rfl rfl) rfl rfl rfl ?_
      refine Ops.ex (Ex.assign rfl) rfl rfl rfl ?_
      refine Ops.nil ?_
      refine Run.cond rfl (fun hc => ?_) (fun hc => ?_)
      · replace hf := ifT (dec_T hc) hf
        refine Run.seq ?_
        refine Run.region ?_
        refine Ops.ex (Ex.assign rfl) rfl rfl rfl ?_
        refine Ops.ex (Ex.assign rfl) rfl rfl rfl ?_
        refine Ops.ex (Ex.assign rfl) rfl rfl rfl ?_
        refine Ops.nil ?_
        obtain rfl := Option.some.inj hf
        exact Run.retV [.slice none 0 0, vi 0, vi 3] rfl ⟨rfl, rfl, rfl, trivial⟩ ⟨z2, none, 0, rfl, hle0, (Sl.nil _ _), hst2⟩
      · replace hf := ifF (dec_F hc) hf
        refine Run.seq ?_
        refine Run.region ?_
        refine Ops.ex (Ex.move rfl) rfl rfl rfl ?_
        refine Ops.ex (Ex.move rfl) rfl rfl rfl ?_
        refine Ops.ex (Ex.add rfl rfl) rfl rfl rfl ?_
        obtain ⟨y4, hy4, hf⟩ := bnd hf
        obtain ⟨g6, p6, o6, cs6, hA6, ho6, hr6, f6⟩ := SlH.elem f1.toH hy4
        obtain rfl := hr6
        refine Ops.ex (Ex.ixA hA6 ho6 hy4 rfl rfl rfl Try.underlying30 sz5) rfl rfl rfl ?_
        refine Ops.load rfl Try.underlying5 rfl ((f6.mono hst2.le) 0 _ rfl) rfl ?_
        refine Ops.ex (Ex.neq8 (a := y4) (b := 229) rfl rfl) rfl rfl rfl ?_
        refine Ops.ex (Ex.assign rfl) rfl rfl rfl ?_
        refine Ops.nil ?_
        refine Run.cond rfl (fun hc => ?_) (fun hc => ?_)
        · replace hf := ifF (neq_T hc) hf
          refine Run.seq ?_
          refine Run.region ?_
          refine Ops.ex (Ex.assign rfl) rfl rfl rfl ?_
          refine Ops.ex (Ex.assign rfl) rfl rfl rfl ?_
          refine Ops.ex (Ex.assign rfl) rfl rfl rfl ?_
          refine Ops.nil ?_
          obtain rfl := Option.some.inj hf
          exact Run.retV [.slice none 0 0, vi 0, vi 1] rfl ⟨rfl, rfl, rfl, trivial⟩ ⟨z2, none, 0, rfl, hle0, (Sl.nil _ _), hst2⟩
        · replace hf := ifT (neq_F hc) hf
          refine Run.seq ?_
          have hm8 := Le.refl z2
          refine Run.drawH [] (by kernel_rfl) hst2 (fun w7 hst7 => ?_)
          refine Any.takeE 0 rfl rfl rfl rfl (by kernel_rfl) (fun _ _ _ _ _ h => h) ((Ex.move rfl).s) ?_
          refine Any.takeE 1 rfl rfl rfl rfl (by kernel_rfl) (fun _ _ _ _ _ h => h) ((Ex.move rfl).s) ?_
          refine Any.takeE 2 rfl rfl rfl rfl (by kernel_rfl) (fun _ _ _ _ _ h => h) ((Ex.add rfl rfl).s) ?_
          obtain ⟨l9, hy9, hf⟩ := bnd hf
          obtain ⟨A9, c9, hA9, hB9, f9⟩ := SlH.sub f1.toH hy9
          replace f9 := f9.toS
          refine Any.takeE 3 rfl rfl rfl rfl (by kernel_rfl) (fun _ _ _ _ _ h => h) ((Ex.subA hA9 hB9 hy9 rfl rfl Try.underlying30 sz5 rfl rfl).s) ?_
          refine Any.takeE 6 rfl rfl rfl rfl (by kernel_rfl) (fun _ _ _ _ _ h => h) ((Ex.move rfl).s) ?_
          obtain ⟨l10, hy10, hf⟩ := bnd hf
          obtain ⟨A10, c10, hA10, hB10, f10⟩ := SlH.sub f1.toH hy10
          replace f10 := f10.toS
          refine Any.takeE 7 rfl rfl rfl rfl (by kernel_rfl) (fun _ _ _ _ _ h => h) ((Ex.subA hA10 hB10 hy10 rfl rfl Try.underlying30 sz5 rfl rfl).s) ?_
          obtain ⟨y11, hy11, hf⟩ := bnd hf
          refine Any.one 4 (by kernel_rfl) rfl rfl (One.of_ops rfl ?_)
          refine Ops.call rfl rfl Try.func44 (by kernel_rfl) (by kernel_rfl) rfl (go_check_Sum.walk (p0 := l9) (hst := hst7) (f1 := f9) (hf := hy11)) ?_
          rintro _ w11 ⟨z11, rfl, hz11, hst11⟩
          refine ⟨_, rfl, Ops.stop ?_⟩
          replace f1 := f1.mono hz11; replace f6 := f6.mono hz11; replace f9 := f9.mono hz11; replace f10 := f10.mono hz11
          replace hle0 := hle0.trans hz11
          replace hm8 := hm8.trans hz11
          refine ⟨trivial, ?_⟩
          refine Any.takeE 5 rfl rfl rfl rfl (by kernel_rfl) (fun _ _ _ _ _ h => h) ((Ex.cu32 rfl Try.underlying86 Try.underlying3).s) ?_
          obtain ⟨y13, hy13, hf⟩ := bnd hf
          refine Any.one 8 (by kernel_rfl) rfl rfl (One.of_ops rfl ?_)
          refine Ops.call rfl rfl Try.func54 (by kernel_rfl) (by kernel_rfl) rfl (go_frame_number.walk (p0 := l10) (hst := hst11) (f1 := f10) (hf := hy13)) ?_
          rintro _ w13 ⟨z13, rfl, hz13, hst13⟩
          refine ⟨_, rfl, Ops.stop ?_⟩
          replace f1 := f1.mono hz13; replace f6 := f6.mono hz13; replace f9 := f9.mono hz13; replace f10 := f10.mono hz13
          replace hle0 := hle0.trans hz13
          replace hm8 := hm8.trans hz13
          refine ⟨trivial, ?_⟩
          refine Any.takeE 9 rfl rfl rfl rfl (by kernel_rfl) (fun _ _ _ _ _ h => h) ((Ex.neqI rfl rfl).s) ?_
          refine Any.takeE 10 rfl rfl rfl rfl (by kernel_rfl) (fun _ _ _ _ _ h => h) ((Ex.assign rfl).s) ?_
          refine Any.done (by kernel_rfl) ?_
          refine Run.cond rfl (fun hc => ?_) (fun hc => ?_)
          · replace hf := ifF (neq_T hc) hf
            refine Run.seq ?_
            refine Run.region ?_
            refine Ops.ex (Ex.assign rfl) rfl rfl rfl ?_
            refine Ops.ex (Ex.assign rfl) rfl rfl rfl ?_
            refine Ops.ex (Ex.assign rfl) rfl rfl rfl ?_
            refine Ops.nil ?_
            obtain rfl := Option.some.inj hf
            exact Run.retV [.slice none 0 0, vi 0, vi 2] rfl ⟨rfl, rfl, rfl, trivial⟩ ⟨z13, none, 0, rfl, hle0, (Sl.nil _ _), hst13⟩
          · replace hf := ifT (neq_F hc) hf
            refine Run.skip ?_
            refine Run.endBlk ?_
            refine Run.seq ?_
            refine Run.region ?_
            refine Ops.ex (Ex.move rfl) rfl rfl rfl ?_
            refine Ops.ex (Ex.move rfl) rfl rfl rfl ?_
            refine Ops.ex (Ex.add rfl rfl) rfl rfl rfl ?_
            obtain ⟨l15, hy15, hf⟩ := bnd hf
            obtain ⟨A15, c15, hA15, hB15, f15⟩ := SlH.sub f1.toH hy15
            replace f15 := f15.toS
            refine Ops.ex (Ex.subA hA15 hB15 hy15 rfl rfl Try.underlying30 sz5 rfl rfl) rfl rfl rfl ?_
            have hst17 := hst13.row0 5 1
            obtain ⟨l16, hy16, hf⟩ := bnd hf
            refine Ops.app 1 hst17 rfl (Cs.nil tU8 z13) rfl (f15.at_ hst17) rfl hy16 rfl rfl rfl rfl Try.underlying30 inf5 rfl (by decide) (by decide) rfl (fun A16 c16 d16 w16 f16 hst16 => ?_)
            refine Ops.ex (Ex.move rfl) rfl rfl rfl ?_
            refine Ops.ex (Ex.add rfl rfl) rfl rfl rfl ?_
            refine Ops.ex (Ex.add rfl rfl) rfl rfl rfl ?_
            refine Ops.ex (Ex.assign rfl) rfl rfl rfl ?_
            refine Ops.ex (Ex.assign rfl) rfl rfl rfl ?_
            refine Ops.ex (Ex.assign rfl) rfl rfl rfl ?_
            refine Ops.nil ?_
            obtain ⟨z19, hz19, f19, hst19⟩ := St.freeze (τ := tU8) (xs := l16) hst16 f16 rfl
            replace f1 := f1.mono hz19; replace f6 := f6.mono hz19; replace f9 := f9.mono hz19; replace f10 := f10.mono hz19; replace f15 := f15.mono hz19
            replace hle0 := hle0.trans hz19
            replace hm8 := hm8.trans hz19
            obtain rfl := Option.some.inj hf
            exact Run.retV [.slice A16 l16.length c16, vi (wr ((wr (8 + y2)) + 1)), vi 0] rfl ⟨rfl, rfl, rfl, trivial⟩ ⟨z19, A16, c16, rfl, hle0, f19, hst19⟩
def go_frame_Make (p0 : List UInt8) : Option (List UInt8 × Int) :=
  if 16384 < (p0.length : Int) then (some ([], 4)) else ((go_check_Sum p0).bind fun y2 => (apB 1 [toU8 ((p0.length : Int) / 16777216), toU8 ((p0.length : Int) / 65536), toU8 ((p0.length : Int) / 256), toU8 (p0.length : Int), toU8 ((shr32 y2 16777216).toNat : Int), toU8 ((shr32 y2 65536).toNat : Int), toU8 ((shr32 y2 256).toNat : Int), toU8 (y2.toNat : Int)] p0).bind fun l5 => (apB 1 l5 [229]).bind fun l7 => some (l7, 0))
set_option maxRecDepth 100000 in
set_option maxHeartbeats 4000000 in
theorem go_frame_Make.walk {w0 w : World} {X : List Res} {z0 : Zp} {p0 : List UInt8} {A1 : Option Addr} {c1 : Nat} {r : List UInt8 × Int} (hst : Ht w0 (frz z0 :: X) w) (f1 : Sl tU8 z0 A1 c1 p0) (hf : go_frame_Make p0 = some r) :
    Calls Try.prog 22 #[.slice A1 p0.length c1] w fun e w' => ∃ (z' : Zp) (A9001 : Option Addr) (c9001 : Nat), e = .returned (.tuple #[.slice A9001 r.1.length c9001, vi r.2]) ∧ Le z0 z' ∧ Sl tU8 z' A9001 c9001 r.1 ∧ Ht w0 (frz z' :: X) w' := by
  refine calls_np Try.func22 rfl rfl ?_
  have hle0 := Le.refl z0
  unfold go_frame_Make at hf
  refine Run.seq ?_
  refine Run.region ?_
  refine Ops.ex (Ex.assign rfl) rfl rfl rfl ?_
  refine Ops.ex (Ex.assign rfl) rfl rfl rfl ?_
  refine Ops.nil ?_
  refine Run.seq ?_
  refine Run.seq ?_
  refine Run.region ?_
  refine Ops.ex (Ex.move rfl) rfl rfl rfl ?_
  refine Ops.ex (Ex.len' rfl rfl rfl Try.underlying30) rfl rfl rfl ?_
  refine Ops.ex (Ex.gtr rfl rfl) rfl rfl rfl ?_
  refine Ops.nil ?_
  refine Run.cond rfl (fun hc => ?_) (fun hc => ?_)
  · replace hf := ifT (dec_T hc) hf
    refine Run.seq ?_
    refine Run.region ?_
    refine Ops.ex (Ex.assign rfl) rfl rfl rfl ?_
    refine Ops.ex (Ex.assign rfl) rfl rfl rfl ?_
    refine Ops.nil ?_
    obtain rfl := Option.some.inj hf
    exact Run.retV [.slice none 0 0, vi 4] rfl ⟨rfl, rfl, trivial⟩ ⟨z0, none, 0, rfl, hle0, (Sl.nil _ _), hst⟩
  · replace hf := ifF (dec_F hc) hf
    refine Run.skip ?_
    refine Run.seq ?_
    refine Run.region ?_
    refine Ops.ex (Ex.move rfl) rfl rfl rfl ?_
    refine Ops.ex (Ex.len' rfl rfl rfl Try.underlying30) rfl rfl rfl ?_
    refine Ops.ex (Ex.move rfl) rfl rfl rfl ?_
    obtain ⟨y2, hy2, hf⟩ := bnd hf
    refine Ops.call rfl rfl Try.func44 (by kernel_rfl) (by kernel_rfl) rfl (go_check_Sum.walk (p0 := p0) (hst := hst) (f1 := f1) (hf := hy2)) ?_
    rintro _ w2 ⟨z2, rfl, hz2, hst2⟩
    refine ⟨_, rfl, ?_⟩
    replace f1 := f1.mono hz2
    replace hle0 := hle0.trans hz2
    refine Ops.ex (Ex.assign rfl) rfl rfl rfl ?_
    refine Ops.ex (Ex.assign rfl) rfl rfl rfl ?_
    refine Ops.nil ?_
    refine Run.seq ?_
    refine Run.region ?_
    refine Ops.ex (Ex.move rfl) rfl rfl rfl ?_
    refine Ops.ex (Ex.shr (m := 16777216) rfl rfl (by decide) (by decide) (by decide)) rfl rfl rfl ?_
    refine Ops.ex (Ex.cto8 rfl Try.underlying3 Try.underlying5) rfl rfl rfl ?_
    refine Ops.ex (Ex.move rfl) rfl rfl rfl ?_
    refine Ops.ex (Ex.shr (m := 65536) rfl rfl (by decide) (by decide) (by decide)) rfl rfl rfl ?_
    refine Ops.ex (Ex.cto8 rfl Try.underlying3 Try.underlying5) rfl rfl rfl ?_
    refine Ops.ex (Ex.move rfl) rfl rfl rfl ?_
    refine Ops.ex (Ex.shr (m := 256) rfl rfl (by decide) (by decide) (by decide)) rfl rfl rfl ?_
    refine Ops.ex (Ex.cto8 rfl Try.underlying3 Try.underlying5) rfl rfl rfl ?_
    refine Ops.ex (Ex.move rfl) rfl rfl rfl ?_
    refine Ops.ex (Ex.cto8 rfl Try.underlying3 Try.underlying5) rfl rfl rfl ?_
    refine Ops.ex (Ex.move rfl) rfl rfl rfl ?_
    refine Ops.ex (Ex.shr32 (a := y2) (m := 16777216) rfl rfl (by decide) (by decide) (by decide)) rfl rfl rfl ?_
    refine Ops.ex (Ex.cto8 rfl Try.underlying86 Try.underlying5) rfl rfl rfl ?_
    refine Ops.ex (Ex.move rfl) rfl rfl rfl ?_
    refine Ops.ex (Ex.shr32 (a := y2) (m := 65536) rfl rfl (by decide) (by decide) (by decide)) rfl rfl rfl ?_
    refine Ops.ex (Ex.cto8 rfl Try.underlying86 Try.underlying5) rfl rfl rfl ?_
    refine Ops.ex (Ex.move rfl) rfl rfl rfl ?_
    refine Ops.ex (Ex.shr32 (a := y2) (m := 256) rfl rfl (by decide) (by decide) (by decide)) rfl rfl rfl ?_
    refine Ops.ex (Ex.cto8 rfl Try.underlying86 Try.underlying5) rfl rfl rfl ?_
    refine Ops.ex (Ex.move rfl) rfl rfl rfl ?_
    refine Ops.ex (Ex.cto8 rfl Try.underlying86 Try.underlying5) rfl rfl rfl ?_
    refine Ops.sliceF [vu8 (toU8 ((p0.length : Int) / 16777216)), vu8 (toU8 ((p0.length : Int) / 65536)), vu8 (toU8 ((p0.length : Int) / 256)), vu8 (toU8 (p0.length : Int)), vu8 (toU8 ((shr32 y2 16777216).toNat : Int)), vu8 (toU8 ((shr32 y2 65536).toNat : Int)), vu8 (toU8 ((shr32 y2 256).toNat : Int)), vu8 (toU8 (y2.toNat : Int))] hst2 rfl Try.underlying30 sz5 zr5 rfl rfl (by kernel_rfl) rfl (by simp [Value.oneCell']) rfl (fun A4 w4 hst4 => ?_)
    have f4 : Cs tU8 z2 [vu8 (toU8 ((p0.length : Int) / 16777216)), vu8 (toU8 ((p0.length : Int) / 65536)), vu8 (toU8 ((p0.length : Int) / 256)), vu8 (toU8 (p0.length : Int)), vu8 (toU8 ((shr32 y2 16777216).toNat : Int)), vu8 (toU8 ((shr32 y2 65536).toNat : Int)), vu8 (toU8 ((shr32 y2 256).toNat : Int)), vu8 (toU8 (y2.toNat : Int))] [toU8 ((p0.length : Int) / 16777216), toU8 ((p0.length : Int) / 65536), toU8 ((p0.length : Int) / 256), toU8 (p0.length : Int), toU8 ((shr32 y2 16777216).toNat : Int), toU8 ((shr32 y2 65536).toNat : Int), toU8 ((shr32 y2 256).toNat : Int), toU8 (y2.toNat : Int)] := (Cs.cons (c := [vu8 (toU8 ((p0.length : Int) / 16777216))]) rfl (Cs.cons (c := [vu8 (toU8 ((p0.length : Int) / 65536))]) rfl (Cs.cons (c := [vu8 (toU8 ((p0.length : Int) / 256))]) rfl (Cs.cons (c := [vu8 (toU8 (p0.length : Int))]) rfl (Cs.cons (c := [vu8 (toU8 ((shr32 y2 16777216).toNat : Int))]) rfl (Cs.cons (c := [vu8 (toU8 ((shr32 y2 65536).toNat : Int))]) rfl (Cs.cons (c := [vu8 (toU8 ((shr32 y2 256).toNat : Int))]) rfl (Cs.cons (c := [vu8 (toU8 (y2.toNat : Int))]) rfl (Cs.nil _ _)))))))))
    refine Ops.ex (Ex.assign rfl) rfl rfl rfl ?_
    refine Ops.nil ?_
    refine Run.seq ?_
    refine Run.region ?_
    refine Ops.ex (Ex.move rfl) rfl rfl rfl ?_
    refine Ops.ex (Ex.move rfl) rfl rfl rfl ?_
    obtain ⟨l5, hy5, hf⟩ := bnd hf
    refine Ops.app 1 hst4 rfl f4 rfl (f1.at_ hst4) rfl hy5 rfl rfl rfl rfl Try.underlying30 inf5 rfl (by decide) (by decide) rfl (fun A5 c5 d5 w5 f5 hst5 => ?_)
    refine Ops.sliceF [vu8 229] hst5 rfl Try.underlying30 sz5 zr5 rfl rfl (by kernel_rfl) rfl (by simp [Value.oneCell']) rfl (fun A6 w6 hst6 => ?_)
    have f6 : Cs tU8 z2 [vu8 229] [229] := (Cs.cons (c := [vu8 229]) rfl (Cs.nil _ _))
    obtain ⟨l7, hy7, hf⟩ := bnd hf
    refine Ops.app 2 hst6 rfl f5 rfl (own_slh f6 rfl (hst6.get (i := 1) rfl)) rfl hy7 rfl rfl rfl rfl Try.underlying30 inf5 rfl (by decide) (by decide) rfl (fun A7 c7 d7 w7 f7 hst7 => ?_)
    refine Ops.ex (Ex.assign rfl) rfl rfl rfl ?_
    refine Ops.ex (Ex.assign rfl) rfl rfl rfl ?_
    refine Ops.nil ?_
    obtain ⟨z8, hz8, f8, hst8⟩ := St.freeze (τ := tU8) (xs := l7) (St.up (St.up (St.up hst7 1 rfl) 2 rfl) 2 rfl) f7 rfl
    replace f1 := f1.mono hz8; replace f6 := f6.mono hz8
    replace hle0 := hle0.trans hz8
    obtain rfl := Option.some.inj hf
    exact Run.retV [.slice A7 l7.length c7, vi 0] rfl ⟨rfl, rfl, trivial⟩ ⟨z8, A7, c7, rfl, hle0, f8, (St.forget hst8 1)⟩
def go_frame_All (p0 : List UInt8) : Option (List UInt8) :=
  some p0
set_option maxRecDepth 100000 in
set_option maxHeartbeats 4000000 in
theorem go_frame_All.walk {w0 w : World} {X : List Res} {z0 : Zp} {p0 : List UInt8} {A1 : Option Addr} {c1 : Nat} {r : List UInt8} (hst : Ht w0 (frz z0 :: X) w) (f1 : Sl tU8 z0 A1 c1 p0) (hf : go_frame_All p0 = some r) :
    Calls Try.prog 45 #[.slice A1 p0.length c1] w fun e w' => ∃ (z' : Zp) (g9001 : Nat) (A9002 : Option Addr) (c9002 : Nat), e = .returned (.func (.func 53) #[] #[.pointer (some ⟨g9001, 0, none⟩)]) ∧ Le z0 z' ∧ Sl tU8 z' A9002 c9002 r ∧ Ht w0 (frz z' :: (blk g9001 [.slice A9002 r.length c9002] 30) :: X) w' := by
  refine calls_np Try.func45 rfl rfl ?_
  have hle0 := Le.refl z0
  unfold go_frame_All at hf
  refine Run.seq ?_
  refine Run.region ?_
  refine Ops.boxF [.slice A1 p0.length c1] hst rfl rfl rfl (fun g2 w2 hst2 => ?_)
  refine Ops.ex (Ex.assign rfl) rfl rfl rfl ?_
  refine Ops.nil ?_
  refine Run.seq ?_
  refine Run.region ?_
  refine Ops.ex (Ex.funcE rfl rfl) rfl rfl rfl ?_
  refine Ops.ex (Ex.assign rfl) rfl rfl rfl ?_
  refine Ops.nil ?_
  obtain rfl := Option.some.inj hf
  exact Run.retV [.func (.func 53) #[] #[.pointer (some ⟨g2, 0, none⟩)]] rfl ⟨rfl, trivial⟩ ⟨z0, g2, A1, c1, rfl, hle0, f1, hst2⟩
def go_frame_All_c1.b1 {σ : Type} (yield : (Int × (List UInt8)) → σ → Option (Bool × σ)) (q0 : List UInt8) : (Int × σ) → (Int × σ → Option σ) → Option σ :=
  fun (x25, ys26) nxb2 => (cutI q0 x25 (q0.length : Int)).bind fun l28 => (go_frame_One l28).bind fun y29 => if y29.2.2 = 0 then ((yield (wr (x25 + y29.2.1), y29.1) ys26).bind fun y33 => if y33.1 then (nxb2 (wr (x25 + y29.2.1), y33.2)) else (some y33.2)) else (some ys26)
def go_frame_All_c1 {σ : Type} (yield : (Int × (List UInt8)) → σ → Option (Bool × σ)) (s0 : σ) (q0 : List UInt8) : Option σ :=
  loopF (go_frame_All_c1.b1 yield q0) fuel (0, s0)
set_option maxRecDepth 100000 in
set_option maxHeartbeats 4000000 in
theorem go_frame_All_c1.walk {w0 w : World} {X : List Res} {z0 : Zp} {l : Nat} {σ : Type} {J : σ → Zp → List Res → Prop} {yield : (Int × (List UInt8)) → σ → Option (Bool × σ)} {s0 : σ} {Hs0 : List Res} {q0 : List UInt8} {gq0 : Nat} {A1 : Option Addr} {c1 : Nat} {r : σ} (hst : Ht w0 (frz z0 :: (blk gq0 [.slice A1 q0.length c1] 30) :: (Hs0 ++ X)) w) (hY : YC Try.prog l w0 J (fun z a vs => ∃ (Ar1_0 : Option Addr) (cr1_0 : Nat), vs = [vi a.1, .slice Ar1_0 a.2.length cr1_0] ∧ Sl tU8 z Ar1_0 cr1_0 a.2) yield) (hJ0 : JH J s0 z0 Hs0) (f1 : Sl tU8 z0 A1 c1 q0) (hf : go_frame_All_c1 yield s0 q0 = some r) :
    Calls Try.prog 53 #[.func (.yield l) #[] #[], .pointer (some ⟨gq0, 0, none⟩)] w fun e w' => ∃ (z' : Zp) (Hs9001 : List Res), e = .returned (.tuple #[]) ∧ Le z0 z' ∧ JH J r z' Hs9001 ∧ Ht w0 (frz z' :: (blk gq0 [.slice A1 q0.length c1] 30) :: (Hs9001 ++ X)) w' := by
  refine calls_np Try.func53 rfl rfl ?_
  have hle0 := Le.refl z0
  unfold go_frame_All_c1 at hf
  refine Run.seq ?_
  refine Run.region ?_
  refine Ops.ex (Ex.assign rfl) rfl rfl rfl ?_
  refine Ops.nil ?_
  refine Run.block ?_
  refine Run.sub (e' := [(0, .func (.yield l) #[] #[]), (1, .pointer (some ⟨gq0, 0, none⟩)), (3, vi 0)]) (subB_spec ⟨rfl, rfl, rfl, trivial⟩) ?_
  refine Run.loop (fun mb2 => (fun e' w' => ∃ (x25 : Int) (ys26 : σ) (Hs26 : List Res) (z24 : Zp), loopF (go_frame_All_c1.b1 yield q0) mb2 (x25, ys26) = some r ∧ e' = [(0, .func (.yield l) #[] #[]), (1, .pointer (some ⟨gq0, 0, none⟩)), (3, vi x25)] ∧ Le z0 z24 ∧ JH J ys26 z24 Hs26 ∧ Ht w0 (frz z24 :: (blk gq0 [.slice A1 q0.length c1] 30) :: (Hs26 ++ X)) w')) fuel ⟨0, s0, Hs0, z0, hf, rfl, hle0, hJ0, hst⟩ ?_
  rintro mb2 e' w27 ⟨x25, ys26, Hs26, z24, hf, rfl, hz27, hJ26, hst27⟩
  replace f1 := f1.mono hz27
  obtain ⟨mb2', nxb2, rfl, hnxb2, hf⟩ := loopF_in hf
  unfold go_frame_All_c1.b1 at hf
  try dsimp only at hf
  refine Run.block ?_
  refine Run.seq ?_
  refine Run.region ?_
  refine Ops.load rfl Try.underlying30 rfl (hst27.cell (i := 1) rfl rfl) rfl ?_
  refine Ops.ex (Ex.move rfl) rfl rfl rfl ?_
  obtain ⟨l28, hy28, hf⟩ := bnd hf
  obtain ⟨A28, c28, hA28, hB28, f28⟩ := SlH.sub f1.toH hy28
  replace f28 := f28.toS
  refine Ops.ex (Ex.subA hA28 hB28 hy28 rfl rfl Try.underlying30 sz5 rfl rfl) rfl rfl rfl ?_
  obtain ⟨y29, hy29, hf⟩ := bnd hf
  refine Ops.call rfl rfl Try.func46 (by kernel_rfl) (by kernel_rfl) rfl (go_frame_One.walk (p0 := l28) (hst := hst27) (f1 := f28) (hf := hy29)) ?_
  rintro _ w29 ⟨z29, A30, c30, rfl, hz29, f30, hst29⟩
  refine ⟨_, rfl, ?_⟩
  replace f1 := f1.mono hz29; replace f28 := f28.mono hz29; replace hJ26 := hJ26.mono hz29
  replace hz27 := hz27.trans hz29
  refine Ops.ex (Ex.move rfl) rfl rfl rfl ?_
  refine Ops.ex (Ex.extract rfl rfl) rfl rfl rfl ?_
  refine Ops.ex (Ex.extract rfl rfl) rfl rfl rfl ?_
  refine Ops.ex (Ex.extract rfl rfl) rfl rfl rfl ?_
  refine Ops.ex (Ex.assign rfl) rfl rfl rfl ?_
  refine Ops.ex (Ex.assign rfl) rfl rfl rfl ?_
  refine Ops.ex (Ex.assign rfl) rfl rfl rfl ?_
  refine Ops.nil ?_
  refine Run.seq ?_
  refine Run.region ?_
  refine Ops.ex (Ex.move rfl) rfl rfl rfl ?_
  refine Ops.ex (Ex.move rfl) rfl rfl rfl ?_
  refine Ops.ex (Ex.add rfl rfl) rfl rfl rfl ?_
  refine Ops.ex (Ex.assign rfl) rfl rfl rfl ?_
  refine Ops.nil ?_
  refine Run.seq ?_
  refine Run.region ?_
  refine Ops.ex (Ex.move rfl) rfl rfl rfl ?_
  refine Ops.ex (Ex.neqI rfl rfl) rfl rfl rfl ?_
  refine Ops.ex (Ex.move rfl) rfl rfl rfl ?_
  refine Ops.case 20 rfl (fun hc => ?_) (fun hc => ?_)
  · replace hf := ifF (neq_T hc) hf
    refine Ops.off rfl rfl ?_
    refine Ops.off rfl rfl ?_
    refine Ops.off rfl rfl ?_
    refine Ops.off rfl rfl ?_
    refine Ops.off rfl rfl ?_
    refine Ops.ex (Ex.pickT rfl rfl) rfl rfl rfl ?_
    refine Ops.nil ?_
    refine Run.condT rfl rfl ?_
    obtain rfl := Option.some.inj hf
    exact Run.retV [] rfl trivial ⟨z29, Hs26, rfl, hz27, hJ26, hst29⟩
  · replace hf := ifT (neq_F hc) hf
    refine Ops.on rfl ?_
    refine Ops.ex (Ex.move rfl) rfl rfl rfl ?_
    refine Ops.on rfl ?_
    refine Ops.ex (Ex.move rfl) rfl rfl rfl ?_
    refine Ops.on rfl ?_
    refine Ops.ex (Ex.move rfl) rfl rfl rfl ?_
    refine Ops.on rfl ?_
    obtain ⟨y33, hy33, hf⟩ := bnd hf
    refine Ops.yieldZ (a := (wr (x25 + y29.2.1), y29.1)) [blk gq0 [.slice A1 q0.length c1] 30] hY hJ26 ⟨_, _, rfl, f30⟩ hst29 hy33 rfl rfl rfl (fun w33 z33 Hs33 hz33 hJ33 hst33 => ?_)
    replace f1 := f1.mono hz33; replace f28 := f28.mono hz33; replace f30 := f30.mono hz33
    replace hz27 := hz27.trans hz33
    have hst33' : Ht w0 (frz z33 :: (blk gq0 [.slice A1 q0.length c1] 30) :: (Hs33 ++ X)) _ := hst33
    refine Ops.on rfl ?_
    refine Ops.ex (Ex.not rfl) rfl rfl rfl ?_
    refine Ops.ex (Ex.pickF rfl rfl) rfl rfl rfl ?_
    refine Ops.nil ?_
    refine Run.cond rfl (fun hc => ?_) (fun hc => ?_)
    · replace hf := ifFb (bn_T hc) hf
      obtain rfl := Option.some.inj hf
      exact Run.retV [] rfl trivial ⟨z33, Hs33, rfl, hz27, hJ33, hst33'⟩
    · replace hf := ifTb (bn_F hc) hf
      refine Run.skip ?_
      refine Run.endBlk ?_
      exact Run.sub (by exact subB_spec ⟨rfl, rfl, rfl, trivial⟩) (Run.stop ⟨mb2', Nat.lt_succ_self _, wr (x25 + y29.2.1), y33.2, Hs33, z33, (hnxb2 _).symm.trans hf, rfl, hz27, hJ33, hst33'⟩)
def go_frame_Rows.z1 : (Int × (List UInt8)) → (List (List UInt8) × Int) → Option (Bool × ((List (List UInt8) × Int) × Nat)) :=
  fun (a9_0, a9_1) (l25, x26) => (apB 24 l25 [a9_1]).bind fun l34 => some (true, ((l34, a9_0), 0))
def go_frame_Rows (p0 : List UInt8) : Option (List (List UInt8) × Int × Int) :=
  (go_frame_All p0).bind fun y5 => (go_frame_All_c1 (yw (go_frame_Rows.z1)) (([], 0), 0) y5).bind fun ((l25, x26), yj9) => if yj9 = 0 then (if x26 = (p0.length : Int) then (some (l25, x26, 0)) else ((cutI p0 x26 (p0.length : Int)).bind fun l41 => (go_frame_One l41).bind fun y42 => some (l25, x26, y42.2.2))) else (none)
set_option maxRecDepth 100000 in
set_option maxHeartbeats 4000000 in
theorem go_frame_Rows.walk {w0 w : World} {X : List Res} {z0 : Zp} {p0 : List UInt8} {A1 : Option Addr} {c1 : Nat} {r : List (List UInt8) × Int × Int} (hst : Ht w0 (frz z0 :: X) w) (f1 : Sl tU8 z0 A1 c1 p0) (hf : go_frame_Rows p0 = some r) :
    Calls Try.prog 26 #[.slice A1 p0.length c1] w fun e w' => ∃ (z' : Zp) (A9001 : Option Addr) (c9001 : Nat), e = .returned (.tuple #[.slice A9001 r.1.length c9001, vi r.2.1, vi r.2.2]) ∧ Le z0 z' ∧ Sl (tSl tU8) z' A9001 c9001 r.1 ∧ Ht w0 (frz z' :: X) w' := by
  refine calls_np Try.func26 rfl rfl ?_
  have hle0 := Le.refl z0
  unfold go_frame_Rows at hf
  refine Run.seq ?_
  refine Run.region ?_
  refine Ops.ex (Ex.assign rfl) rfl rfl rfl ?_
  refine Ops.ex (Ex.assign rfl) rfl rfl rfl ?_
  refine Ops.ex (Ex.assign rfl) rfl rfl rfl ?_
  refine Ops.nil ?_
  refine Run.seq ?_
  refine Run.region ?_
  refine Ops.allocF [.slice none 0 0] hst zr53 rfl rfl (fun g2 w2 hst2 => ?_)
  refine Ops.nil ?_
  refine Run.seq ?_
  refine Run.region ?_
  refine Ops.allocF [vi 0] hst2 zr3 rfl rfl (fun g3 w3 hst3 => ?_)
  refine Ops.store 1 [vi 0] hst3 rfl rfl rfl rfl sz3 rfl (by simp [Value.oneCell']) (by simp) (fun w4 hst4 => ?_)
  refine Ops.nil ?_
  refine Run.seq ?_
  refine Run.seq ?_
  refine Run.region ?_
  refine Ops.ex (Ex.move rfl) rfl rfl rfl ?_
  obtain ⟨y5, hy5, hf⟩ := bnd hf
  refine Ops.call rfl rfl Try.func45 (by kernel_rfl) (by kernel_rfl) rfl (go_frame_All.walk (p0 := p0) (hst := hst4) (f1 := f1) (hf := hy5)) ?_
  rintro _ w5 ⟨z5, g6, A7, c7, rfl, hz5, f7, hst5⟩
  refine ⟨_, rfl, ?_⟩
  replace f1 := f1.mono hz5
  replace hle0 := hle0.trans hz5
  refine Ops.nil ?_
  refine Run.block ?_
  have hm8 := Le.refl z5
  have hst27 := hst5.row0 30 1
  have hst29 := hst5.row0 30 1
  obtain ⟨⟨ys9, yj9⟩, hy9, hf⟩ := bnd hf
  try dsimp only at hf
  refine Run.rangeZ (fun (s_ : List (List UInt8) × Int) (z24 : Zp) (Hs_ : List Res) => ∃ (l25 : List (List UInt8)) (x26 : Int) (A25 : Option Addr) (c25 : Nat) (d25 : List Value), (l25, x26) = s_ ∧ Le z5 z24 ∧ Le z0 z24 ∧ Cs (tSl tU8) z24 d25 l25 ∧ Hs_ = [orow 30 1 (.slice A25 l25.length c25) l25.length d25, blk g3 [vi x26] 3, blk g2 [.slice A25 l25.length c25] 53]) (fun z a vs => ∃ (Ar1_0 : Option Addr) (cr1_0 : Nat), vs = [vi a.1, .slice Ar1_0 a.2.length cr1_0] ∧ Sl tU8 z Ar1_0 cr1_0 a.2) (go_frame_Rows.z1) (fun _ => Code.skip) rfl rfl Try.func53 (by kernel_rfl) (by kernel_rfl) ?_ rfl (s0 := ([], 0)) (s1 := ys9) (j1 := yj9) (Hs := [orow 30 1 (.slice none 0 0) 0 [], blk g3 [vi 0] 3, blk g2 [.slice none 0 0] 53]) (X := (blk g6 [.slice A7 y5.length c7] 30 :: X)) ⟨[], 0, none, 0, [], rfl, hm8, hle0, (Cs.nil _ _), rfl⟩ (St.up (St.up (St.up (St.up (St.up hst29 2 rfl) 4 rfl) 4 rfl) 4 rfl) 4 rfl) ?_ ?_ ?_ ?_
  · rintro _ _ _ ⟨Ae9_1_0, ce9_1_0, rfl, fe9_1_0⟩
    rfl
  · intro l_ J_ W_ Hs_ hY_ hJ_ hst_
    refine (go_frame_All_c1.walk (yield := yw (go_frame_Rows.z1)) (s0 := (([], 0), 0)) (q0 := y5) (hst := St.swp (M := Hs_) (Hs := [blk g6 [.slice A7 y5.length c7] 30]) (X := X) hst_) (Hs0 := Hs_) (X := X) (hY := hY_) (hJ0 := hJ_) (f1 := f7) (hf := hy9)).mono ?_
    rintro _ W'_ ⟨z'_, Hs31, rfl, hl_, hJ31, hst'_⟩
    exact ⟨⟨_, rfl⟩, z'_, _, hl_, hJ31, St.swp (M := [blk g6 [.slice A7 y5.length c7] 30]) (Hs := Hs31) hst'_⟩
  · rintro s_ ar9 vs_ z1_ zr9 Hs_ Y_ l_ W_ rr_ ⟨l25, x26, A25, c25, d25, rfl, hm9_0, hm9_1, f25, rfl⟩ hz12 hA_ hf hst9
    obtain ⟨a9_0, a9_1⟩ := ar9
    obtain ⟨Ae9_1_0, ce9_1_0, rfl, fe9_1_0⟩ := hA_
    replace f1 := f1.mono (hm9_0.trans hz12)
    replace f25 := f25.mono hz12
    replace hm9_0 := hm9_0.trans hz12; replace hm9_1 := hm9_1.trans hz12
    unfold go_frame_Rows.z1 at hf
    try dsimp only at hf
    have hzz9 := Le.refl zr9
    replace hst9 : Ht w0 (frz zr9 :: (orow 30 1 (.slice A25 l25.length c25) l25.length d25) :: (blk g3 [vi x26] 3) :: (blk g2 [.slice A25 l25.length c25] 53) :: Y_) _ := hst9
    refine Run.seq ?_
    refine Run.region ?_
    refine Ops.ex (Ex.assign rfl) rfl rfl rfl ?_
    refine Ops.nil ?_
    refine Run.region ?_
    refine Ops.ex (Ex.assign rfl) rfl rfl rfl ?_
    refine Ops.nil ?_
    refine Run.stop ⟨hst9, fun Y9 W32 hst32 => ?_⟩
    replace hst32 : Ht w0 (frz zr9 :: (orow 30 1 (.slice A25 l25.length c25) l25.length d25) :: (blk g3 [vi x26] 3) :: (blk g2 [.slice A25 l25.length c25] 53) :: Y9) _ := hst32
    refine Run.block ?_
    refine Run.region ?_
    refine Ops.load rfl Try.underlying53 rfl (hst32.cell (i := 3) rfl rfl) rfl ?_
    refine Ops.ex (Ex.move rfl) rfl rfl rfl ?_
    refine Ops.sliceF [.slice Ae9_1_0 a9_1.length ce9_1_0] hst32 rfl Try.underlying53 sz30 zr30 rfl rfl (by kernel_rfl) rfl (by simp [Value.oneCell']) rfl (fun A33 w33 hst33 => ?_)
    have f33 : Cs (tSl tU8) zr9 [.slice Ae9_1_0 a9_1.length ce9_1_0] [a9_1] := (Cs.cons (c := [.slice Ae9_1_0 a9_1.length ce9_1_0]) ⟨_, _, rfl, fe9_1_0⟩ (Cs.nil _ _))
    obtain ⟨l34, hy34, hf⟩ := bnd hf
    refine Ops.app 2 hst33 rfl f25 rfl (own_slh f33 rfl (hst33.get (i := 1) rfl)) rfl hy34 rfl rfl rfl rfl Try.underlying53 inf30 rfl (by decide) (by decide) rfl (fun A34 c34 d34 w34 f34 hst34 => ?_)
    refine Ops.ex (Ex.move rfl) rfl rfl rfl ?_
    refine Ops.store 4 [.slice A34 l34.length c34] hst34 rfl rfl rfl rfl sz53 rfl (by simp [Value.oneCell']) (by simp) (fun w35 hst35 => ?_)
    refine Ops.store 3 [vi a9_0] hst35 rfl rfl rfl rfl sz3 rfl (by simp [Value.oneCell']) (by simp) (fun w36 hst36 => ?_)
    refine Ops.nil ?_
    refine Run.endBlk ?_
    obtain rfl := Option.some.inj hf
    exact Run.endZ rfl rfl (Le.refl _) ⟨l34, a9_0, A34, c34, d34, rfl, hm9_0, hm9_1, f34, rfl⟩ (St.forget hst36 1)
  · rintro z1_ zd9 Hs_ D9 W_ h0 ⟨l25, x26, A25, c25, d25, rfl, hm9_0, hm9_1, f25, rfl⟩ hz12 hzd hst9
    replace f1 := f1.mono (hm9_0.trans hz12)
    replace f25 := f25.mono hz12
    replace hm9_0 := hm9_0.trans hz12; replace hm9_1 := hm9_1.trans hz12
    replace f7 := f7.mono hzd
    have hst9' : Ht w0 (frz zd9 :: (orow 30 1 (.slice A25 l25.length c25) l25.length d25) :: (blk g3 [vi x26] 3) :: (blk g2 [.slice A25 l25.length c25] 53) :: ob D9 (.deferred (some [])) :: (blk g6 [.slice A7 y5.length c7] 30) :: X) _ := hst9
    try dsimp only at hf
    replace hf := ifT h0 hf
    refine Run.endBlk ?_
    refine Run.seq ?_
    refine Run.seq ?_
    refine Run.region ?_
    refine Ops.load rfl Try.underlying3 rfl (hst9'.cell (i := 2) rfl rfl) rfl ?_
    refine Ops.ex (Ex.move rfl) rfl rfl rfl ?_
    refine Ops.ex (Ex.len' rfl rfl rfl Try.underlying30) rfl rfl rfl ?_
    refine Ops.ex (Ex.eqlI rfl rfl) rfl rfl rfl ?_
    refine Ops.nil ?_
    refine Run.cond rfl (fun hc => ?_) (fun hc => ?_)
    · replace hf := ifT (dec_T hc) hf
      refine Run.seq ?_
      have hm38 := Le.refl zd9
      refine Run.drawH [([], fun w => ∃ ζ Y, Le zd9 ζ ∧ Ht w0 (frz ζ :: (orow 30 1 (.slice A25 l25.length c25) l25.length d25) :: (blk g3 [vi x26] 3) :: (blk g2 [.slice A25 l25.length c25] 53) :: (blk g6 [.slice A7 y5.length c7] 30) :: Y) w)] (by kernel_rfl) hst9' (fun w37 hst37 => ?_)
      have hS0 := (⟨_, _, (Le.refl _), (St.up (St.up (St.up (St.up (St.up hst37 5 rfl) 4 rfl) 4 rfl) 4 rfl) 4 rfl)⟩ : (fun w => ∃ ζ Y, Le zd9 ζ ∧ Ht w0 (frz ζ :: (orow 30 1 (.slice A25 l25.length c25) l25.length d25) :: (blk g3 [vi x26] 3) :: (blk g2 [.slice A25 l25.length c25] 53) :: (blk g6 [.slice A7 y5.length c7] 30) :: Y) w) _)
      refine Any.take 0 0 rfl rfl rfl rfl rfl (by kernel_rfl) (fun _ _ _ _ _ h => h) (ExS.load rfl Try.underlying53 rfl (fun w hS => by obtain ⟨_, _, _, hs⟩ := hS; exact hs.cell (i := 3) rfl rfl)) hS0 ?_
      refine Any.take 0 1 rfl rfl rfl rfl rfl (by kernel_rfl) (fun _ _ _ _ _ h => h) (ExS.load rfl Try.underlying3 rfl (fun w hS => by obtain ⟨_, _, _, hs⟩ := hS; exact hs.cell (i := 2) rfl rfl)) hS0 ?_
      refine Any.takeE 2 rfl rfl rfl rfl (by kernel_rfl) (fun _ _ _ _ _ h => h) ((Ex.assign rfl).s) ?_
      refine Any.takeE 3 rfl rfl rfl rfl (by kernel_rfl) (fun _ _ _ _ _ h => h) ((Ex.assign rfl).s) ?_
      refine Any.takeE 4 rfl rfl rfl rfl (by kernel_rfl) (fun _ _ _ _ _ h => h) ((Ex.assign rfl).s) ?_
      refine Any.done (by kernel_rfl) ?_
      obtain ⟨hD39, hst39⟩ := St.shutD hst37 4 rfl
      have hst39 : Ht w0 (frz zd9 :: (orow 30 1 (.slice A25 l25.length c25) l25.length d25) :: (blk g3 [vi x26] 3) :: (blk g2 [.slice A25 l25.length c25] 53) :: ob D9 (.deferred none) :: (blk g6 [.slice A7 y5.length c7] 30) :: X) _ := hst39
      obtain ⟨z40, hz40, f40, hst40⟩ := St.freeze (τ := (tSl tU8)) (xs := l25) hst39 f25 rfl
      replace f1 := f1.mono hz40; replace f7 := f7.mono hz40
      replace hm9_0 := hm9_0.trans hz40
      replace hm9_1 := hm9_1.trans hz40
      replace hm38 := hm38.trans hz40
      obtain rfl := Option.some.inj hf
      exact Run.retW [.slice A25 l25.length c25, vi x26, vi 0] (Shut.cons hD39 (Shut.nil _)) ⟨rfl, rfl, rfl, trivial⟩ ⟨z40, A25, c25, rfl, hm9_1, f40, (St.forget (St.forget (St.forget (St.forget hst40 4) 3) 2) 1)⟩
    · replace hf := ifF (dec_F hc) hf
      refine Run.skip ?_
      refine Run.seq ?_
      refine Run.region ?_
      refine Ops.ex (Ex.move rfl) rfl rfl rfl ?_
      refine Ops.load rfl Try.underlying3 rfl (hst9'.cell (i := 2) rfl rfl) rfl ?_
      obtain ⟨l41, hy41, hf⟩ := bnd hf
      obtain ⟨A41, c41, hA41, hB41, f41⟩ := SlH.sub f1.toH hy41
      replace f41 := f41.toS
      refine Ops.ex (Ex.subA hA41 hB41 hy41 rfl rfl Try.underlying30 sz5 rfl rfl) rfl rfl rfl ?_
      obtain ⟨y42, hy42, hf⟩ := bnd hf
      refine Ops.call rfl rfl Try.func46 (by kernel_rfl) (by kernel_rfl) rfl (go_frame_One.walk (p0 := l41) (hst := hst9') (f1 := f41) (hf := hy42)) ?_
      rintro _ w42 ⟨z42, A43, c43, rfl, hz42, f43, hst42⟩
      refine ⟨_, rfl, ?_⟩
      replace f1 := f1.mono hz42; replace f41 := f41.mono hz42; replace f25 := f25.mono hz42; replace f7 := f7.mono hz42
      replace hm9_0 := hm9_0.trans hz42
      replace hm9_1 := hm9_1.trans hz42
      refine Ops.ex (Ex.move rfl) rfl rfl rfl ?_
      refine Ops.ex (Ex.extract rfl rfl) rfl rfl rfl ?_
      refine Ops.ex (Ex.extract rfl rfl) rfl rfl rfl ?_
      refine Ops.ex (Ex.extract rfl rfl) rfl rfl rfl ?_
      refine Ops.ex (Ex.assign rfl) rfl rfl rfl ?_
      refine Ops.ex (Ex.assign rfl) rfl rfl rfl ?_
      refine Ops.ex (Ex.assign rfl) rfl rfl rfl ?_
      refine Ops.nil ?_
      refine Run.seq ?_
      have hm47 := Le.refl z42
      refine Run.drawH [([], fun w => ∃ ζ Y, Le z42 ζ ∧ Ht w0 (frz ζ :: (orow 30 1 (.slice A25 l25.length c25) l25.length d25) :: (blk g3 [vi x26] 3) :: (blk g2 [.slice A25 l25.length c25] 53) :: (blk g6 [.slice A7 y5.length c7] 30) :: Y) w)] (by kernel_rfl) hst42 (fun w46 hst46 => ?_)
      have hS0 := (⟨_, _, (Le.refl _), (St.up (St.up (St.up (St.up (St.up hst46 5 rfl) 4 rfl) 4 rfl) 4 rfl) 4 rfl)⟩ : (fun w => ∃ ζ Y, Le z42 ζ ∧ Ht w0 (frz ζ :: (orow 30 1 (.slice A25 l25.length c25) l25.length d25) :: (blk g3 [vi x26] 3) :: (blk g2 [.slice A25 l25.length c25] 53) :: (blk g6 [.slice A7 y5.length c7] 30) :: Y) w) _)
      refine Any.take 0 0 rfl rfl rfl rfl rfl (by kernel_rfl) (fun _ _ _ _ _ h => h) (ExS.load rfl Try.underlying53 rfl (fun w hS => by obtain ⟨_, _, _, hs⟩ := hS; exact hs.cell (i := 3) rfl rfl)) hS0 ?_
      refine Any.take 0 1 rfl rfl rfl rfl rfl (by kernel_rfl) (fun _ _ _ _ _ h => h) (ExS.load rfl Try.underlying3 rfl (fun w hS => by obtain ⟨_, _, _, hs⟩ := hS; exact hs.cell (i := 2) rfl rfl)) hS0 ?_
      refine Any.takeE 2 rfl rfl rfl rfl (by kernel_rfl) (fun _ _ _ _ _ h => h) ((Ex.move rfl).s) ?_
      refine Any.takeE 3 rfl rfl rfl rfl (by kernel_rfl) (fun _ _ _ _ _ h => h) ((Ex.assign rfl).s) ?_
      refine Any.takeE 4 rfl rfl rfl rfl (by kernel_rfl) (fun _ _ _ _ _ h => h) ((Ex.assign rfl).s) ?_
      refine Any.takeE 5 rfl rfl rfl rfl (by kernel_rfl) (fun _ _ _ _ _ h => h) ((Ex.assign rfl).s) ?_
      refine Any.done (by kernel_rfl) ?_
      obtain ⟨hD48, hst48⟩ := St.shutD hst46 4 rfl
      have hst48 : Ht w0 (frz z42 :: (orow 30 1 (.slice A25 l25.length c25) l25.length d25) :: (blk g3 [vi x26] 3) :: (blk g2 [.slice A25 l25.length c25] 53) :: ob D9 (.deferred none) :: (blk g6 [.slice A7 y5.length c7] 30) :: X) _ := hst48
      obtain ⟨z49, hz49, f49, hst49⟩ := St.freeze (τ := (tSl tU8)) (xs := l25) hst48 f25 rfl
      replace f1 := f1.mono hz49; replace f41 := f41.mono hz49; replace f43 := f43.mono hz49; replace f7 := f7.mono hz49
      replace hm9_0 := hm9_0.trans hz49
      replace hm9_1 := hm9_1.trans hz49
      replace hm47 := hm47.trans hz49
      obtain rfl := Option.some.inj hf
      exact Run.retW [.slice A25 l25.length c25, vi x26, vi y42.2.2] (Shut.cons hD48 (Shut.nil _)) ⟨rfl, rfl, rfl, trivial⟩ ⟨z49, A25, c25, rfl, hm9_1, f49, (St.forget (St.forget (St.forget (St.forget hst49 4) 3) 2) 1)⟩
  · rintro z1_ zd9 Hs_ D9 W_ h0 ⟨l25, x26, A25, c25, d25, rfl, hm9_0, hm9_1, f25, rfl⟩ hz12 hzd hst9
    replace f1 := f1.mono (hm9_0.trans hz12)
    replace f25 := f25.mono hz12
    replace hm9_0 := hm9_0.trans hz12; replace hm9_1 := hm9_1.trans hz12
    replace f7 := f7.mono hzd
    have hst9' : Ht w0 (frz zd9 :: (orow 30 1 (.slice A25 l25.length c25) l25.length d25) :: (blk g3 [vi x26] 3) :: (blk g2 [.slice A25 l25.length c25] 53) :: ob D9 (.deferred (some [])) :: (blk g6 [.slice A7 y5.length c7] 30) :: X) _ := hst9
    try dsimp only at hf
    replace hf := ifF h0 hf
    cases hf
end
end Go.Proofs.Ytjlhookdigbjhaa.E9
