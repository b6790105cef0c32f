/- Edits: pack. -/
import Derived.Test.YtjlhookdigbjhaaE3
import Derived.Test.YtjlhookdigbjhaaGnF
namespace Go.Proofs.Ytjlhookdigbjhaa.E4
open Go Go.RowKit Go.Proofs.Ytjlhookdigbjhaa.Sx Go.Proofs.Ytjlhookdigbjhaa.E1 Go.Proofs.Ytjlhookdigbjhaa.E2 Go.Proofs.Ytjlhookdigbjhaa.E3
set_option linter.unusedVariables false
set_option linter.unusedSimpArgs false
structure packWriter where
  b_ : List UInt8
  deriving DecidableEq
def tpackWriter : Ty packWriter where
  sz := 1
  R := fun ζ cs x => ∃ A0 c0, cs = [.slice A0 x.b_.length c0] ∧ Sl tU8 ζ A0 c0 x.b_
  len := by rintro ζ cs x ⟨A0, c0, rfl, f0⟩; rfl
  one := by
    rintro ζ cs x ⟨A0, c0, rfl, f0⟩ u hu
    simp only [List.mem_cons, List.not_mem_nil, or_false] at hu
    rcases hu with rfl <;> rfl
  mono := by rintro ζ ζ' cs x ⟨A0, c0, rfl, f0⟩ hl; exact ⟨A0, c0, rfl, f0.mono hl⟩
structure packReader where
  b_ : List UInt8
  bad_ : Bool
  deriving DecidableEq
def tpackReader : Ty packReader where
  sz := 2
  R := fun ζ cs x => ∃ A0 c0, cs = [.slice A0 x.b_.length c0, vb x.bad_] ∧ Sl tU8 ζ A0 c0 x.b_
  len := by rintro ζ cs x ⟨A0, c0, rfl, f0⟩; rfl
  one := by
    rintro ζ cs x ⟨A0, c0, rfl, f0⟩ u hu
    simp only [List.mem_cons, List.not_mem_nil, or_false] at hu
    rcases hu with rfl | rfl <;> rfl
  mono := by rintro ζ ζ' cs x ⟨A0, c0, rfl, f0⟩ hl; exact ⟨A0, c0, rfl, f0.mono hl⟩
theorem inf5 : (Try.prog.info? 5).map (fun i => (i.zero, i.size, i.bytes)) = some (some (.int .u8 0), 1, 1) := by kernel_rfl
theorem zr97 : (Try.prog.info? 97).map (·.zero) = some (some (.agg #[.slice none 0 0, .bool false])) := by kernel_rfl
theorem pl97 {fs : Array Field} (h : Try.prog.underlying 97 = some (.struct fs)) (w : World) : (fs.mapM fun f => do pure (f.offset, ← sizeOf f.type) : Sem (Array (Nat × Nat))).run Try.prog w = .ok #[(0, 1), (1, 1)] w := by
  rw [Try.underlying97] at h
  cases h
  kernel_rfl
def go_pack_Writer_Num.b1 (p1 : Int) : (Int × List UInt8) → (Int × List UInt8 → Option packWriter) → Option packWriter :=
  fun (x26, l27) nxb3 => if 0 ≤ x26 then ((shrI p1 (wr (8 * x26))).bind fun y31 => (apB 1 l27 [toU8 y31]).bind fun l33 => nxb3 (wr (x26 - 1), l33)) else (some (⟨l27⟩ : packWriter))
def go_pack_Writer_Num (p0 : packWriter) (p1 : Int) : Option packWriter :=
  loopF (go_pack_Writer_Num.b1 p1) fuel (7, p0.b_)
set_option maxRecDepth 100000 in
set_option maxHeartbeats 4000000 in
theorem go_pack_Writer_Num.walk {w0 w : World} {X : List Res} {z0 : Zp} {p0 : packWriter} {g0 : Nat} {A1 : Option Addr} {c1 : Nat} {d1 : List Value} {p1 : Int} {r : packWriter} (hst : Ht w0 (frz z0 :: (blk g0 [.slice A1 p0.b_.length c1] 76) :: (orow 5 1 (.slice A1 p0.b_.length c1) p0.b_.length d1) :: X) w) (f1 : Cs tU8 z0 d1 p0.b_) (hf : go_pack_Writer_Num p0 p1 = some r) :
    Calls Try.prog 34 #[.pointer (some ⟨g0, 0, none⟩), vi p1] w fun e w' => ∃ (z' : Zp) (A9001 : Option Addr) (c9001 : Nat) (d9001 : List Value), e = .returned (.pointer (some ⟨g0, 0, none⟩)) ∧ Le z0 z' ∧ Cs tU8 z' d9001 r.b_ ∧ Ht w0 (frz z' :: (blk g0 [.slice A9001 r.b_.length c9001] 76) :: (orow 5 1 (.slice A9001 r.b_.length c9001) r.b_.length d9001) :: X) w' := by
  refine calls_np Try.func34 rfl rfl ?_
  have hle0 := Le.refl z0
  unfold go_pack_Writer_Num at hf
  refine Run.seq ?_
  refine Run.region ?_
  refine Ops.ex (Ex.assign rfl) rfl rfl rfl ?_
  refine Ops.nil ?_
  refine Run.seq ?_
  refine Run.seq ?_
  refine Run.region ?_
  refine Ops.ex (Ex.assign rfl) rfl rfl rfl ?_
  refine Ops.nil ?_
  refine Run.block ?_
  refine Run.sub (e' := [(0, .pointer (some ⟨g0, 0, none⟩)), (1, vi p1), (5, vi 7)]) (subB_spec ⟨rfl, rfl, rfl, trivial⟩) ?_
  refine Run.loop (fun mb3 => (fun e' w' => ∃ (x26 : Int) (l27 : List UInt8) (A27 : Option Addr) (c27 : Nat) (d27 : List Value) (z25 : Zp), loopF (go_pack_Writer_Num.b1 p1) mb3 (x26, l27) = some r ∧ e' = [(0, .pointer (some ⟨g0, 0, none⟩)), (1, vi p1), (5, vi x26)] ∧ Le z0 z25 ∧ Cs tU8 z25 d27 l27 ∧ Ht w0 (frz z25 :: (orow 5 1 (.slice A27 l27.length c27) l27.length d27) :: (blk g0 [.slice A27 l27.length c27] 76) :: X) w')) fuel ⟨7, p0.b_, A1, c1, d1, z0, hf, rfl, hle0, f1, (St.up (St.up (St.up hst 1 rfl) 2 rfl) 2 rfl)⟩ ?_
  rintro mb3 e' w28 ⟨x26, l27, A27, c27, d27, z25, hf, rfl, hz28, f27, hst28⟩
  obtain ⟨mb3', nxb3, rfl, hnxb3, hf⟩ := loopF_in hf
  unfold go_pack_Writer_Num.b1 at hf
  try dsimp only at hf
  refine Run.seq ?_
  refine Run.seq ?_
  refine Run.region ?_
  refine Ops.ex (Ex.move rfl) rfl rfl rfl ?_
  refine Ops.ex (Ex.geq rfl rfl) rfl rfl rfl ?_
  refine Ops.nil ?_
  refine Run.cond rfl (fun hc => ?_) (fun hc => ?_)
  · replace hf := ifT (dec_T hc) hf
    refine Run.skip ?_
    refine Run.seq ?_
    refine Run.block ?_
    have hm30 := Le.refl z25
    refine Run.drawH [([], fun w => ∃ ζ Y, Le z25 ζ ∧ Ht w0 (frz ζ :: Y) w), ([11, 14], fun w => ∃ ζ Y, Le z25 ζ ∧ Ht w0 (frz ζ :: (orow 5 1 (.slice A27 l27.length c27) l27.length d27) :: Y) w), ([14], fun w => ∃ ζ Y, Le z25 ζ ∧ Ht w0 (frz ζ :: (blk g0 [.slice A27 l27.length c27] 76) :: Y) w)] (by kernel_rfl) hst28 (fun w29 hst29 => ?_)
    have hS0 := (⟨_, _, (Le.refl _), hst29⟩ : (fun w => ∃ ζ Y, Le z25 ζ ∧ Ht w0 (frz ζ :: Y) w) _)
    have hS1 := (⟨_, _, (Le.refl _), (St.up (St.up hst29 1 rfl) 1 rfl)⟩ : (fun w => ∃ ζ Y, Le z25 ζ ∧ Ht w0 (frz ζ :: (orow 5 1 (.slice A27 l27.length c27) l27.length d27) :: Y) w) _)
    have hS2 := (⟨_, _, (Le.refl _), (St.up (St.up hst29 2 rfl) 1 rfl)⟩ : (fun w => ∃ ζ Y, Le z25 ζ ∧ Ht w0 (frz ζ :: (blk g0 [.slice A27 l27.length c27] 76) :: Y) w) _)
    refine Any.takeE 0 rfl rfl rfl rfl (by kernel_rfl) (fun _ _ _ _ _ h => h) ((Ex.move rfl).s) ?_
    refine Any.takeE 1 rfl rfl rfl rfl (by kernel_rfl) (fun _ _ _ _ _ h => h) ((Ex.move rfl).s) ?_
    refine Any.takeE 2 rfl rfl rfl rfl (by kernel_rfl) (fun _ _ _ _ _ h => h) ((Ex.nilCheck rfl).s) ?_
    refine Any.takeE 3 rfl rfl rfl rfl (by kernel_rfl) (fun _ _ _ _ _ h => h) ((Ex.fieldAddr rfl Try.underlying76 rfl sz30).s) ?_
    refine Any.take 2 4 rfl rfl rfl rfl rfl (by kernel_rfl) (fun _ _ _ _ _ h => h) (ExS.load rfl Try.underlying30 rfl (fun w hS => by obtain ⟨_, _, _, hs⟩ := hS; exact hs.cell (i := 1) rfl rfl)) hS2 ?_
    refine Any.takeE 5 rfl rfl rfl rfl (by kernel_rfl) (fun _ _ _ _ _ h => h) ((Ex.move rfl).s) ?_
    refine Any.takeE 6 rfl rfl rfl rfl (by kernel_rfl) (fun _ _ _ _ _ h => h) ((Ex.move rfl).s) ?_
    refine Any.takeE 7 rfl rfl rfl rfl (by kernel_rfl) (fun _ _ _ _ _ h => h) ((Ex.mul rfl rfl).s) ?_
    obtain ⟨y31, hy31, hf⟩ := bnd hf
    refine Any.takeE 8 rfl rfl rfl rfl (by kernel_rfl) (fun _ _ _ _ _ h => h) ((Ex.shrI hy31 rfl rfl).s) ?_
    refine Any.takeE 9 rfl rfl rfl rfl (by kernel_rfl) (fun _ _ _ _ _ h => h) ((Ex.cto8 rfl Try.underlying3 Try.underlying5).s) ?_
    refine Any.one 10 (by kernel_rfl) rfl rfl (One.of_ops rfl ?_)
    refine Ops.sliceF [vu8 (toU8 y31)] hst29 rfl Try.underlying30 sz5 zr5 rfl rfl (by kernel_rfl) rfl (by simp [Value.oneCell']) rfl (fun A32 w32 hst32 => Ops.stop ?_)
    have f32 : Cs tU8 z25 [vu8 (toU8 y31)] [toU8 y31] := (Cs.cons (c := [vu8 (toU8 y31)]) rfl (Cs.nil _ _))
    have hS0 := (⟨_, _, (Le.refl _), hst32⟩ : (fun w => ∃ ζ Y, Le z25 ζ ∧ Ht w0 (frz ζ :: Y) w) _)
    have hS1 := (⟨_, _, (Le.refl _), (St.up (St.up hst32 2 rfl) 1 rfl)⟩ : (fun w => ∃ ζ Y, Le z25 ζ ∧ Ht w0 (frz ζ :: (orow 5 1 (.slice A27 l27.length c27) l27.length d27) :: Y) w) _)
    have hS2 := (⟨_, _, (Le.refl _), (St.up (St.up hst32 3 rfl) 1 rfl)⟩ : (fun w => ∃ ζ Y, Le z25 ζ ∧ Ht w0 (frz ζ :: (blk g0 [.slice A27 l27.length c27] 76) :: Y) w) _)
    refine ⟨⟨.inr (fun _ => hS0), .inr (fun _ => hS1), .inr (fun _ => hS2), trivial⟩, ?_⟩
    obtain ⟨l33, hy33, hf⟩ := bnd hf
    refine Any.one 11 (by kernel_rfl) rfl rfl (One.of_ops rfl ?_)
    refine Ops.app 2 hst32 rfl f27 rfl (own_slh f32 rfl (hst32.get (i := 1) rfl)) rfl hy33 rfl rfl rfl rfl Try.underlying30 inf5 rfl (by decide) (by decide) rfl (fun A33 c33 d33 w33 f33 hst33 => Ops.stop ?_)
    have hS0 := (⟨_, _, (Le.refl _), hst33⟩ : (fun w => ∃ ζ Y, Le z25 ζ ∧ Ht w0 (frz ζ :: Y) w) _)
    have hS2 := (⟨_, _, (Le.refl _), (St.up (St.up hst33 3 rfl) 1 rfl)⟩ : (fun w => ∃ ζ Y, Le z25 ζ ∧ Ht w0 (frz ζ :: (blk g0 [.slice A27 l27.length c27] 76) :: Y) w) _)
    refine ⟨⟨.inr (fun _ => hS0), .inl (by decide), .inr (fun _ => hS2), trivial⟩, ?_⟩
    refine Any.takeE 12 rfl rfl rfl rfl (by kernel_rfl) (fun _ _ _ _ _ h => h) ((Ex.nilCheck rfl).s) ?_
    refine Any.takeE 13 rfl rfl rfl rfl (by kernel_rfl) (fun _ _ _ _ _ h => h) ((Ex.fieldAddr rfl Try.underlying76 rfl sz30).s) ?_
    refine Any.one 14 (by kernel_rfl) rfl rfl (One.of_ops rfl ?_)
    refine Ops.store 3 [.slice A33 l33.length c33] hst33 rfl rfl rfl rfl sz30 rfl (by simp [Value.oneCell']) (by simp) (fun w34 hst34 => Ops.stop ?_)
    have hS0 := (⟨_, _, (Le.refl _), hst34⟩ : (fun w => ∃ ζ Y, Le z25 ζ ∧ Ht w0 (frz ζ :: Y) w) _)
    refine ⟨⟨.inr (fun _ => hS0), .inl (by decide), .inl (by decide), trivial⟩, ?_⟩
    refine Any.done (by kernel_rfl) ?_
    refine Run.endBlk ?_
    refine Run.region ?_
    refine Ops.ex (Ex.move rfl) rfl rfl rfl ?_
    refine Ops.ex (Ex.sub rfl rfl) rfl rfl rfl ?_
    refine Ops.ex (Ex.assign rfl) rfl rfl rfl ?_
    refine Ops.nil ?_
    exact Run.sub (by exact subB_spec ⟨rfl, rfl, rfl, trivial⟩) (Run.stop ⟨mb3', Nat.lt_succ_self _, wr (x26 - 1), l33, A33, c33, d33, z25, (hnxb3 _).symm.trans hf, rfl, hz28, f33, (St.forget hst34 1)⟩)
  · replace hf := ifF (dec_F hc) hf
    refine Run.exit _ rfl ?_
    refine Run.seq ?_
    refine Run.region ?_
    refine Ops.ex (Ex.move rfl) rfl rfl rfl ?_
    refine Ops.ex (Ex.assign rfl) rfl rfl rfl ?_
    refine Ops.nil ?_
    obtain rfl := Option.some.inj hf
    exact Run.retV [.pointer (some ⟨g0, 0, none⟩)] rfl ⟨rfl, trivial⟩ ⟨z25, A27, c27, d27, rfl, hz28, f27, (St.up (St.up (St.up hst28 1 rfl) 2 rfl) 2 rfl)⟩
def go_pack_Writer_Byte (p0 : packWriter) (p1 : UInt8) : Option packWriter :=
  (apB 1 p0.b_ [p1]).bind fun l4 => some (⟨l4⟩ : packWriter)
set_option maxRecDepth 100000 in
set_option maxHeartbeats 4000000 in
theorem go_pack_Writer_Byte.walk {w0 w : World} {X : List Res} {z0 : Zp} {p0 : packWriter} {g0 : Nat} {A1 : Option Addr} {c1 : Nat} {d1 : List Value} {p1 : UInt8} {r : packWriter} (hst : Ht w0 (frz z0 :: (blk g0 [.slice A1 p0.b_.length c1] 76) :: (orow 5 1 (.slice A1 p0.b_.length c1) p0.b_.length d1) :: X) w) (f1 : Cs tU8 z0 d1 p0.b_) (hf : go_pack_Writer_Byte p0 p1 = some r) :
    Calls Try.prog 36 #[.pointer (some ⟨g0, 0, none⟩), vu8 p1] w fun e w' => ∃ (z' : Zp) (A9001 : Option Addr) (c9001 : Nat) (d9001 : List Value), e = .returned (.pointer (some ⟨g0, 0, none⟩)) ∧ Le z0 z' ∧ Cs tU8 z' d9001 r.b_ ∧ Ht w0 (frz z' :: (blk g0 [.slice A9001 r.b_.length c9001] 76) :: (orow 5 1 (.slice A9001 r.b_.length c9001) r.b_.length d9001) :: X) w' := by
  refine calls_np Try.func36 rfl rfl ?_
  have hle0 := Le.refl z0
  unfold go_pack_Writer_Byte at hf
  refine Run.seq ?_
  refine Run.region ?_
  refine Ops.ex (Ex.assign rfl) rfl rfl rfl ?_
  refine Ops.nil ?_
  refine Run.seq ?_
  refine Run.region ?_
  refine Ops.ex (Ex.move rfl) rfl rfl rfl ?_
  refine Ops.ex (Ex.move rfl) rfl rfl rfl ?_
  refine Ops.ex (Ex.nilCheck rfl) rfl rfl rfl ?_
  refine Ops.ex (Ex.fieldAddr rfl Try.underlying76 rfl sz30) rfl rfl rfl ?_
  refine Ops.load rfl Try.underlying30 rfl (hst.cell (i := 1) rfl rfl) rfl ?_
  refine Ops.ex (Ex.move rfl) rfl rfl rfl ?_
  refine Ops.sliceF [vu8 p1] hst rfl Try.underlying30 sz5 zr5 rfl rfl (by kernel_rfl) rfl (by simp [Value.oneCell']) rfl (fun A3 w3 hst3 => ?_)
  have f3 : Cs tU8 z0 [vu8 p1] [p1] := (Cs.cons (c := [vu8 p1]) rfl (Cs.nil _ _))
  obtain ⟨l4, hy4, hf⟩ := bnd hf
  refine Ops.app 3 hst3 rfl f1 rfl (own_slh f3 rfl (hst3.get (i := 1) rfl)) rfl hy4 rfl rfl rfl rfl Try.underlying30 inf5 rfl (by decide) (by decide) rfl (fun A4 c4 d4 w4 f4 hst4 => ?_)
  refine Ops.ex (Ex.nilCheck rfl) rfl rfl rfl ?_
  refine Ops.ex (Ex.fieldAddr rfl Try.underlying76 rfl sz30) rfl rfl rfl ?_
  refine Ops.store 2 [.slice A4 l4.length c4] hst4 rfl rfl rfl rfl sz30 rfl (by simp [Value.oneCell']) (by simp) (fun w5 hst5 => ?_)
  refine Ops.nil ?_
  refine Run.seq ?_
  refine Run.region ?_
  refine Ops.ex (Ex.move rfl) rfl rfl rfl ?_
  refine Ops.ex (Ex.assign rfl) rfl rfl rfl ?_
  refine Ops.nil ?_
  obtain rfl := Option.some.inj hf
  exact Run.retV [.pointer (some ⟨g0, 0, none⟩)] rfl ⟨rfl, trivial⟩ ⟨z0, A4, c4, d4, rfl, hle0, f4, (St.forget hst5 1)⟩
def go_pack_Writer_Text (p0 : packWriter) (p1 : Str) : Option packWriter :=
  (go_pack_Writer_Num p0 (p1.length : Int)).bind fun y3 => (apB 1 y3.b_ p1).bind fun l5 => some (⟨l5⟩ : packWriter)
set_option maxRecDepth 100000 in
set_option maxHeartbeats 4000000 in
theorem go_pack_Writer_Text.walk {w0 w : World} {X : List Res} {z0 : Zp} {p0 : packWriter} {g0 : Nat} {A1 : Option Addr} {c1 : Nat} {d1 : List Value} {p1 : Str} {r : packWriter} (hst : Ht w0 (frz z0 :: (blk g0 [.slice A1 p0.b_.length c1] 76) :: (orow 5 1 (.slice A1 p0.b_.length c1) p0.b_.length d1) :: X) w) (f1 : Cs tU8 z0 d1 p0.b_) (hf : go_pack_Writer_Text p0 p1 = some r) :
    Calls Try.prog 35 #[.pointer (some ⟨g0, 0, none⟩), vs p1] w fun e w' => ∃ (z' : Zp) (A9001 : Option Addr) (c9001 : Nat) (d9001 : List Value), e = .returned (.pointer (some ⟨g0, 0, none⟩)) ∧ Le z0 z' ∧ Cs tU8 z' d9001 r.b_ ∧ Ht w0 (frz z' :: (blk g0 [.slice A9001 r.b_.length c9001] 76) :: (orow 5 1 (.slice A9001 r.b_.length c9001) r.b_.length d9001) :: X) w' := by
  refine calls_np Try.func35 rfl rfl ?_
  have hle0 := Le.refl z0
  unfold go_pack_Writer_Text at hf
  refine Run.seq ?_
  refine Run.region ?_
  refine Ops.ex (Ex.assign rfl) rfl rfl rfl ?_
  refine Ops.nil ?_
  refine Run.seq ?_
  refine Run.region ?_
  refine Ops.ex (Ex.move rfl) rfl rfl rfl ?_
  refine Ops.ex (Ex.move rfl) rfl rfl rfl ?_
  refine Ops.ex (Ex.lenT rfl rfl rfl Try.underlying9) rfl rfl rfl ?_
  obtain ⟨y3, hy3, hf⟩ := bnd hf
  refine Ops.call rfl rfl Try.func34 (by kernel_rfl) (by kernel_rfl) rfl (go_pack_Writer_Num.walk (p0 := p0) (p1 := (p1.length : Int)) (hst := hst) (f1 := f1) (hf := hy3)) ?_
  rintro _ w3 ⟨z3, A4, c4, d4, rfl, hz3, f4, hst3⟩
  refine ⟨_, rfl, ?_⟩
  replace hle0 := hle0.trans hz3
  refine Ops.nil ?_
  refine Run.seq ?_
  refine Run.region ?_
  refine Ops.ex (Ex.move rfl) rfl rfl rfl ?_
  refine Ops.ex (Ex.move rfl) rfl rfl rfl ?_
  refine Ops.ex (Ex.nilCheck rfl) rfl rfl rfl ?_
  refine Ops.ex (Ex.fieldAddr rfl Try.underlying76 rfl sz30) rfl rfl rfl ?_
  refine Ops.load rfl Try.underlying30 rfl (hst3.cell (i := 1) rfl rfl) rfl ?_
  refine Ops.ex (Ex.move rfl) rfl rfl rfl ?_
  obtain ⟨l5, hy5, hf⟩ := bnd hf
  refine Ops.appS 2 hst3 rfl f4 rfl hy5 rfl rfl rfl rfl Try.underlying30 Try.underlying9 inf5 (by decide) rfl (fun A5 c5 d5 w5 f5 hst5 => ?_)
  refine Ops.ex (Ex.nilCheck rfl) rfl rfl rfl ?_
  refine Ops.ex (Ex.fieldAddr rfl Try.underlying76 rfl sz30) rfl rfl rfl ?_
  refine Ops.store 1 [.slice A5 l5.length c5] hst5 rfl rfl rfl rfl sz30 rfl (by simp [Value.oneCell']) (by simp) (fun w6 hst6 => ?_)
  refine Ops.nil ?_
  refine Run.seq ?_
  refine Run.region ?_
  refine Ops.ex (Ex.move rfl) rfl rfl rfl ?_
  refine Ops.ex (Ex.assign rfl) rfl rfl rfl ?_
  refine Ops.nil ?_
  obtain rfl := Option.some.inj hf
  exact Run.retV [.pointer (some ⟨g0, 0, none⟩)] rfl ⟨rfl, trivial⟩ ⟨z3, A5, c5, d5, rfl, hle0, f5, hst6⟩
def go_pack_Writer_Bytes (p0 : packWriter) : Option (List UInt8) :=
  (apB 1 [] p0.b_).bind fun l2 => some l2
set_option maxRecDepth 100000 in
set_option maxHeartbeats 4000000 in
theorem go_pack_Writer_Bytes.walk {w0 w : World} {X : List Res} {z0 : Zp} {p0 : packWriter} {g0 : Nat} {A1 : Option Addr} {c1 : Nat} {d1 : List Value} {r : List UInt8} (hst : Ht w0 (frz z0 :: (blk g0 [.slice A1 p0.b_.length c1] 76) :: (orow 5 1 (.slice A1 p0.b_.length c1) p0.b_.length d1) :: X) w) (f1 : Cs tU8 z0 d1 p0.b_) (hf : go_pack_Writer_Bytes p0 = some r) :
    Calls Try.prog 37 #[.pointer (some ⟨g0, 0, none⟩)] w fun e w' => ∃ (z' : Zp) (A9001 : Option Addr) (c9001 : Nat), e = .returned (.slice A9001 r.length c9001) ∧ Le z0 z' ∧ Sl tU8 z' A9001 c9001 r ∧ Ht w0 (frz z' :: (blk g0 [.slice A1 p0.b_.length c1] 76) :: (orow 5 1 (.slice A1 p0.b_.length c1) p0.b_.length d1) :: X) w' := by
  refine calls_np Try.func37 rfl rfl ?_
  have hle0 := Le.refl z0
  unfold go_pack_Writer_Bytes at hf
  refine Run.seq ?_
  refine Run.region ?_
  refine Ops.ex (Ex.assign rfl) rfl rfl rfl ?_
  refine Ops.nil ?_
  refine Run.seq ?_
  refine Run.region ?_
  refine Ops.ex (Ex.move rfl) rfl rfl rfl ?_
  refine Ops.ex (Ex.nilCheck rfl) rfl rfl rfl ?_
  refine Ops.ex (Ex.fieldAddr rfl Try.underlying76 rfl sz30) rfl rfl rfl ?_
  refine Ops.load rfl Try.underlying30 rfl (hst.cell (i := 1) rfl rfl) rfl ?_
  have hst3 := hst.row0 5 1
  obtain ⟨l2, hy2, hf⟩ := bnd hf
  refine Ops.app 1 hst3 rfl (Cs.nil tU8 z0) rfl (own_slh f1 rfl (hst3.get (i := 3) rfl)) rfl hy2 rfl rfl rfl rfl Try.underlying30 inf5 rfl (by decide) (by decide) rfl (fun A2 c2 d2 w2 f2 hst2 => ?_)
  refine Ops.ex (Ex.assign rfl) rfl rfl rfl ?_
  refine Ops.nil ?_
  obtain ⟨z5, hz5, f5, hst5⟩ := St.freeze (τ := tU8) (xs := l2) hst2 f2 rfl
  replace f1 := f1.mono hz5
  replace hle0 := hle0.trans hz5
  obtain rfl := Option.some.inj hf
  exact Run.retV [.slice A2 l2.length c2] rfl ⟨rfl, trivial⟩ ⟨z5, A2, c2, rfl, hle0, f5, hst5⟩
def go_pack_Of (p0 : List UInt8) : Option packReader :=
  some (⟨p0, false⟩ : packReader)
set_option maxRecDepth 100000 in
set_option maxHeartbeats 4000000 in
theorem go_pack_Of.walk {w0 w : World} {X : List Res} {z0 : Zp} {p0 : List UInt8} {A1 : Option Addr} {c1 : Nat} {r : packReader} (hst : Ht w0 (frz z0 :: X) w) (f1 : Sl tU8 z0 A1 c1 p0) (hf : go_pack_Of p0 = some r) :
    Calls Try.prog 38 #[.slice A1 p0.length c1] w fun e w' => ∃ (z' : Zp) (g9001 : Nat) (A9002 : Option Addr) (c9002 : Nat), e = .returned (.pointer (some ⟨g9001, 0, none⟩)) ∧ Le z0 z' ∧ Sl tU8 z' A9002 c9002 r.b_ ∧ Ht w0 (frz z' :: (blk g9001 [.slice A9002 r.b_.length c9002, vb r.bad_] 97) :: X) w' := by
  refine calls_np Try.func38 rfl rfl ?_
  have hle0 := Le.refl z0
  unfold go_pack_Of at hf
  refine Run.seq ?_
  refine Run.region ?_
  refine Ops.ex (Ex.assign rfl) rfl rfl rfl ?_
  refine Ops.nil ?_
  refine Run.seq ?_
  refine Run.region ?_
  refine Ops.ex (Ex.move rfl) rfl rfl rfl ?_
  refine Ops.ex (Ex.build [.slice A1 p0.length c1, vb false] rfl Try.underlying97 zr97 (pl97 Try.underlying97) (by kernel_rfl)) rfl rfl rfl ?_
  refine Ops.boxF [.slice A1 p0.length c1, vb false] hst rfl rfl rfl (fun g2 w2 hst2 => ?_)
  refine Ops.ex (Ex.assign rfl) rfl rfl rfl ?_
  refine Ops.nil ?_
  obtain rfl := Option.some.inj hf
  exact Run.retV [.pointer (some ⟨g2, 0, none⟩)] rfl ⟨rfl, trivial⟩ ⟨z0, g2, A1, c1, rfl, hle0, f1, hst2⟩
def go_pack_Reader_take.j1 (p0 : packReader) (p1 : Int) (b9 : Bool) : Option (List UInt8 × packReader) :=
  if b9 then (some ([], (⟨p0.b_, b9⟩ : packReader))) else ((cutI p0.b_ 0 p1).bind fun l14 => (cutI p0.b_ p1 (p0.b_.length : Int)).bind fun l15 => some (l14, (⟨l15, b9⟩ : packReader)))
def go_pack_Reader_take (p0 : packReader) (p1 : Int) : Option (List UInt8 × packReader) :=
  if p0.bad_ then (go_pack_Reader_take.j1 p0 p1 true) else (if p1 < 0 then (go_pack_Reader_take.j1 p0 p1 true) else (go_pack_Reader_take.j1 p0 p1 (decide ((p0.b_.length : Int) < p1))))
set_option maxRecDepth 100000 in
set_option maxHeartbeats 4000000 in
theorem go_pack_Reader_take.walk {w0 w : World} {X : List Res} {z0 : Zp} {p0 : packReader} {g0 : Nat} {A1 : Option Addr} {c1 : Nat} {p1 : Int} {r : List UInt8 × packReader} (hst : Ht w0 (frz z0 :: (blk g0 [.slice A1 p0.b_.length c1, vb p0.bad_] 97) :: X) w) (f1 : Sl tU8 z0 A1 c1 p0.b_) (hf : go_pack_Reader_take p0 p1 = some r) :
    Calls Try.prog 50 #[.pointer (some ⟨g0, 0, none⟩), vi p1] w fun e w' => ∃ (z' : Zp) (A9001 : Option Addr) (c9001 : Nat) (A9002 : Option Addr) (c9002 : Nat), e = .returned (.slice A9001 r.1.length c9001) ∧ Le z0 z' ∧ Sl tU8 z' A9001 c9001 r.1 ∧ Sl tU8 z' A9002 c9002 r.2.b_ ∧ Ht w0 (frz z' :: (blk g0 [.slice A9002 r.2.b_.length c9002, vb r.2.bad_] 97) :: X) w' := by
  refine calls_np Try.func50 rfl rfl ?_
  have hle0 := Le.refl z0
  unfold go_pack_Reader_take at hf
  refine Run.seq ?_
  refine Run.region ?_
  refine Ops.ex (Ex.assign rfl) rfl rfl rfl ?_
  refine Ops.nil ?_
  refine Run.seq ?_
  refine Run.seq ?_
  apply Run.jn (fun e' w' => ∃ (b9 : Bool) (z8 : Zp), go_pack_Reader_take.j1 p0 p1 b9 = some r ∧ e' = [(0, .pointer (some ⟨g0, 0, none⟩)), (1, vi p1)] ∧ Le z0 z8 ∧ Ht w0 (frz z8 :: (blk g0 [.slice A1 p0.b_.length c1, vb b9] 97) :: X) w')
  · intro hj4
    refine Run.region ?_
    refine Ops.ex (Ex.move rfl) rfl rfl rfl ?_
    refine Ops.ex (Ex.move rfl) rfl rfl rfl ?_
    refine Ops.ex (Ex.nilCheck rfl) rfl rfl rfl ?_
    refine Ops.ex (Ex.fieldAddr rfl Try.underlying97 rfl sz4) rfl rfl rfl ?_
    refine Ops.load rfl Try.underlying4 rfl (hst.cell (i := 1) rfl rfl) rfl ?_
    refine Ops.ex (Ex.move rfl) rfl rfl rfl ?_
    refine Ops.case 11 rfl (fun hc => ?_) (fun hc => ?_)
    · replace hf := ifTb hc hf
      refine Ops.off rfl rfl ?_
      refine Ops.off rfl rfl ?_
      refine Ops.ex (Ex.pickT rfl rfl) rfl rfl rfl ?_
      refine Ops.ex (Ex.move rfl) rfl rfl rfl ?_
      refine Ops.off rfl rfl ?_
      refine Ops.off rfl rfl ?_
      refine Ops.off rfl rfl ?_
      refine Ops.off rfl rfl ?_
      refine Ops.off rfl rfl ?_
      refine Ops.off rfl rfl ?_
      refine Ops.off rfl rfl ?_
      refine Ops.ex (Ex.pickT rfl rfl) rfl rfl rfl ?_
      refine Ops.ex (Ex.nilCheck rfl) rfl rfl rfl ?_
      refine Ops.ex (Ex.fieldAddr rfl Try.underlying97 rfl sz4) rfl rfl rfl ?_
      refine Ops.store 1 [vb true] hst rfl rfl rfl rfl sz4 rfl (by simp [Value.oneCell']) (by simp) (fun w10 hst10 => ?_)
      refine Ops.nil ?_
      exact Run.sub (by exact subB_spec ⟨rfl, rfl, trivial⟩) (hj4 _ _ ⟨true, z0, hf, rfl, hle0, hst10⟩)
    · replace hf := ifFb hc hf
      refine Ops.on rfl ?_
      refine Ops.ex (Ex.move rfl) rfl rfl rfl ?_
      refine Ops.on rfl ?_
      refine Ops.ex (Ex.lss rfl rfl) rfl rfl rfl ?_
      refine Ops.ex (Ex.pickF rfl rfl) rfl rfl rfl ?_
      refine Ops.ex (Ex.move rfl) rfl rfl rfl ?_
      refine Ops.case 15 rfl (fun hc => ?_) (fun hc => ?_)
      · replace hf := ifT (dec_T hc) hf
        refine Ops.off rfl rfl ?_
        refine Ops.off rfl rfl ?_
        refine Ops.off rfl rfl ?_
        refine Ops.off rfl rfl ?_
        refine Ops.off rfl rfl ?_
        refine Ops.off rfl rfl ?_
        refine Ops.off rfl rfl ?_
        refine Ops.ex (Ex.pickT rfl rfl) rfl rfl rfl ?_
        refine Ops.ex (Ex.nilCheck rfl) rfl rfl rfl ?_
        refine Ops.ex (Ex.fieldAddr rfl Try.underlying97 rfl sz4) rfl rfl rfl ?_
        refine Ops.store 1 [vb true] hst rfl rfl rfl rfl sz4 rfl (by simp [Value.oneCell']) (by simp) (fun w11 hst11 => ?_)
        refine Ops.nil ?_
        exact Run.sub (by exact subB_spec ⟨rfl, rfl, trivial⟩) (hj4 _ _ ⟨true, z0, hf, rfl, hle0, hst11⟩)
      · replace hf := ifF (dec_F hc) hf
        refine Ops.on rfl ?_
        refine Ops.ex (Ex.move rfl) rfl rfl rfl ?_
        refine Ops.on rfl ?_
        refine Ops.ex (Ex.move rfl) rfl rfl rfl ?_
        refine Ops.on rfl ?_
        refine Ops.ex (Ex.nilCheck rfl) rfl rfl rfl ?_
        refine Ops.on rfl ?_
        refine Ops.ex (Ex.fieldAddr rfl Try.underlying97 rfl sz30) rfl rfl rfl ?_
        refine Ops.on rfl ?_
        refine Ops.load rfl Try.underlying30 rfl (hst.cell (i := 1) rfl rfl) rfl ?_
        refine Ops.on rfl ?_
        refine Ops.ex (Ex.len' rfl rfl rfl Try.underlying30) rfl rfl rfl ?_
        refine Ops.on rfl ?_
        refine Ops.ex (Ex.gtr rfl rfl) rfl rfl rfl ?_
        refine Ops.ex (Ex.pickF rfl rfl) rfl rfl rfl ?_
        refine Ops.ex (Ex.nilCheck rfl) rfl rfl rfl ?_
        refine Ops.ex (Ex.fieldAddr rfl Try.underlying97 rfl sz4) rfl rfl rfl ?_
        refine Ops.store 1 [vb (decide ((p0.b_.length : Int) < p1))] hst rfl rfl rfl rfl sz4 rfl (by simp [Value.oneCell']) (by simp) (fun w12 hst12 => ?_)
        refine Ops.nil ?_
        exact Run.sub (by exact subB_spec ⟨rfl, rfl, trivial⟩) (hj4 _ _ ⟨decide ((p0.b_.length : Int) < p1), z0, hf, rfl, hle0, hst12⟩)
  · rintro e' w13 ⟨b9, z8, hf, rfl, hz13, hst13⟩
    replace f1 := f1.mono hz13
    unfold go_pack_Reader_take.j1 at hf
    refine Run.seq ?_
    refine Run.region ?_
    refine Ops.ex (Ex.move rfl) rfl rfl rfl ?_
    refine Ops.ex (Ex.nilCheck rfl) rfl rfl rfl ?_
    refine Ops.ex (Ex.fieldAddr rfl Try.underlying97 rfl sz4) rfl rfl rfl ?_
    refine Ops.load rfl Try.underlying4 rfl (hst13.cell (i := 1) rfl rfl) rfl ?_
    refine Ops.nil ?_
    refine Run.cond rfl (fun hc => ?_) (fun hc => ?_)
    · replace hf := ifTb hc hf
      refine Run.seq ?_
      refine Run.region ?_
      refine Ops.ex (Ex.assign rfl) rfl rfl rfl ?_
      refine Ops.nil ?_
      obtain rfl := Option.some.inj hf
      exact Run.retV [.slice none 0 0] rfl ⟨rfl, trivial⟩ ⟨z8, none, 0, A1, c1, rfl, hz13, (Sl.nil _ _), f1, hst13⟩
    · replace hf := ifFb hc hf
      refine Run.skip ?_
      refine Run.seq ?_
      refine Run.region ?_
      refine Ops.ex (Ex.move rfl) rfl rfl rfl ?_
      refine Ops.ex (Ex.nilCheck rfl) rfl rfl rfl ?_
      refine Ops.ex (Ex.fieldAddr rfl Try.underlying97 rfl sz30) rfl rfl rfl ?_
      refine Ops.load rfl Try.underlying30 rfl (hst13.cell (i := 1) rfl rfl) rfl ?_
      refine Ops.ex (Ex.move rfl) rfl rfl rfl ?_
      obtain ⟨l14, hy14, hf⟩ := bnd hf
      obtain ⟨A14, c14, hA14, hB14, f14⟩ := SlH.sub f1.toH hy14
      replace f14 := f14.toS
      refine Ops.ex (Ex.subA hA14 hB14 hy14 rfl rfl Try.underlying30 sz5 rfl rfl) rfl rfl rfl ?_
      refine Ops.ex (Ex.assign rfl) rfl rfl rfl ?_
      refine Ops.nil ?_
      refine Run.seq ?_
      refine Run.region ?_
      refine Ops.ex (Ex.move rfl) rfl rfl rfl ?_
      refine Ops.ex (Ex.move rfl) rfl rfl rfl ?_
      refine Ops.ex (Ex.nilCheck rfl) rfl rfl rfl ?_
      refine Ops.ex (Ex.fieldAddr rfl Try.underlying97 rfl sz30) rfl rfl rfl ?_
      refine Ops.load rfl Try.underlying30 rfl (hst13.cell (i := 1) rfl rfl) rfl ?_
      refine Ops.ex (Ex.move rfl) rfl rfl rfl ?_
      obtain ⟨l15, hy15, hf⟩ := bnd hf
      obtain ⟨A15, c15, hA15, hB15, f15⟩ := SlH.sub f1.toH hy15
      replace f15 := f15.toS
      refine Ops.ex (Ex.subA hA15 hB15 hy15 rfl rfl Try.underlying30 sz5 rfl rfl) rfl rfl rfl ?_
      refine Ops.ex (Ex.nilCheck rfl) rfl rfl rfl ?_
      refine Ops.ex (Ex.fieldAddr rfl Try.underlying97 rfl sz30) rfl rfl rfl ?_
      refine Ops.store 1 [.slice A15 l15.length c15] hst13 rfl rfl rfl rfl sz30 rfl (by simp [Value.oneCell']) (by simp) (fun w16 hst16 => ?_)
      refine Ops.nil ?_
      refine Run.seq ?_
      refine Run.region ?_
      refine Ops.ex (Ex.move rfl) rfl rfl rfl ?_
      refine Ops.ex (Ex.assign rfl) rfl rfl rfl ?_
      refine Ops.nil ?_
      obtain rfl := Option.some.inj hf
      exact Run.retV [.slice A14 l14.length c14] rfl ⟨rfl, trivial⟩ ⟨z8, A14, c14, A15, c15, rfl, hz13, f14, f15, hst16⟩
def go_pack_Reader_Num.b1 (i7 : Nat) (a7 : UInt8) : Int → (Int → Option (Int × packReader)) → Option (Int × packReader) :=
  fun x21 nxb7 => nxb7 (orI (wr (x21 * 256)) (a7.toNat : Int))
def go_pack_Reader_Num (p0 : packReader) : Option (Int × packReader) :=
  (go_pack_Reader_take p0 8).bind fun y3 => forL (go_pack_Reader_Num.b1) (fun x21 => some (x21, y3.2)) 0 y3.1 0
set_option maxRecDepth 100000 in
set_option maxHeartbeats 4000000 in
theorem go_pack_Reader_Num.walk {w0 w : World} {X : List Res} {z0 : Zp} {p0 : packReader} {g0 : Nat} {A1 : Option Addr} {c1 : Nat} {r : Int × packReader} (hst : Ht w0 (frz z0 :: (blk g0 [.slice A1 p0.b_.length c1, vb p0.bad_] 97) :: X) w) (f1 : Sl tU8 z0 A1 c1 p0.b_) (hf : go_pack_Reader_Num p0 = some r) :
    Calls Try.prog 39 #[.pointer (some ⟨g0, 0, none⟩)] w fun e w' => ∃ (z' : Zp) (A9002 : Option Addr) (c9002 : Nat), e = .returned (vi r.1) ∧ Le z0 z' ∧ Sl tU8 z' A9002 c9002 r.2.b_ ∧ Ht w0 (frz z' :: (blk g0 [.slice A9002 r.2.b_.length c9002, vb r.2.bad_] 97) :: X) w' := by
  refine calls_np Try.func39 rfl rfl ?_
  have hle0 := Le.refl z0
  unfold go_pack_Reader_Num at hf
  refine Run.seq ?_
  refine Run.region ?_
  refine Ops.ex (Ex.assign rfl) rfl rfl rfl ?_
  refine Ops.nil ?_
  refine Run.seq ?_
  refine Run.region ?_
  refine Ops.ex (Ex.assign rfl) rfl rfl rfl ?_
  refine Ops.nil ?_
  refine Run.seq ?_
  refine Run.seq ?_
  refine Run.region ?_
  refine Ops.ex (Ex.move rfl) rfl rfl rfl ?_
  obtain ⟨y3, hy3, hf⟩ := bnd hf
  refine Ops.call rfl rfl Try.func50 (by kernel_rfl) (by kernel_rfl) rfl (go_pack_Reader_take.walk (p0 := p0) (p1 := 8) (hst := hst) (f1 := f1) (hf := hy3)) ?_
  rintro _ w3 ⟨z3, A4, c4, A5, c5, rfl, hz3, f4, f5, hst3⟩
  refine ⟨_, rfl, ?_⟩
  replace hle0 := hle0.trans hz3
  refine Ops.ex (Ex.len' rfl rfl rfl Try.underlying30) rfl rfl rfl ?_
  refine Ops.ex (Ex.move rfl) rfl rfl rfl ?_
  refine Ops.nil ?_
  refine Run.block ?_
  have hc7 := f4.cap
  have hm8 := Le.refl z3
  refine Run.sub (e' := [(3, vi 0), (7, .slice A4 y3.1.length c4), (8, vi (y3.1.length : Int)), (9, vi ((0 : Nat) : Int))]) (subB_spec ⟨rfl, rfl, rfl, rfl, trivial⟩) ?_
  refine Run.loop (fun mb7 => (fun e' w' => ∃ (i7 : Nat) (x21 : Int) (z20 : Zp), mb7 = y3.1.length - i7 ∧ i7 ≤ y3.1.length ∧ forL (go_pack_Reader_Num.b1) (fun x21 => some (x21, y3.2)) i7 (y3.1.drop i7) x21 = some r ∧ e' = [(3, vi x21), (7, .slice A4 y3.1.length c4), (8, vi (y3.1.length : Int)), (9, vi (i7 : Int))] ∧ Le z3 z20 ∧ Le z0 z20 ∧ Ht w0 (frz z20 :: (blk g0 [.slice A5 y3.2.b_.length c5, vb y3.2.bad_] 97) :: X) w')) y3.1.length ⟨0, 0, z3, rfl, Nat.zero_le _, hf, rfl, hm8, hle0, hst3⟩ ?_
  rintro _ e' w22 ⟨i7, x21, z20, rfl, hi7, hf, rfl, hz22, hy22_0, hst22⟩
  replace f4 := f4.mono hz22; replace f5 := f5.mono hz22
  refine Run.seq ?_
  refine Run.region ?_
  refine Ops.ex (Ex.lss rfl rfl) rfl rfl rfl ?_
  refine Ops.nil ?_
  refine Run.seq ?_
  refine Run.cond rfl (fun hc => ?_) (fun hc => ?_)
  · have hl7 := lt_of_dec hc
    obtain ⟨a7, nxb7, ha7, hnxb7, hf⟩ := forL_in hf hl7
    unfold go_pack_Reader_Num.b1 at hf
    try dsimp only at hf
    refine Run.skip ?_
    refine Run.seq ?_
    refine Run.block ?_
    refine Run.seq ?_
    refine Run.region ?_
    obtain ⟨g24, p24, o24, cs24, hA24, ho24, hr24, f24⟩ := SlH.elem f4.toH (atI_nat ha7)
    obtain rfl := hr24
    refine Ops.ex (Ex.ixA hA24 ho24 (atI_nat ha7) rfl rfl rfl Try.underlying30 sz5) rfl rfl rfl ?_
    refine Ops.load rfl Try.underlying5 rfl ((f24.mono hst22.le) 0 _ rfl) rfl ?_
    refine Ops.ex (Ex.assign rfl) rfl rfl rfl ?_
    refine Ops.nil ?_
    refine Run.region ?_
    refine Ops.ex (Ex.move rfl) rfl rfl rfl ?_
    refine Ops.ex (Ex.shlC (m := 256) rfl rfl (by decide) (by decide)) rfl rfl rfl ?_
    refine Ops.ex (Ex.move rfl) rfl rfl rfl ?_
    refine Ops.ex (Ex.cu8 rfl Try.underlying5 Try.underlying3) rfl rfl rfl ?_
    refine Ops.ex (Ex.orI rfl rfl) rfl rfl rfl ?_
    refine Ops.ex (Ex.assign rfl) rfl rfl rfl ?_
    refine Ops.nil ?_
    refine Run.endBlk ?_
    refine Run.region ?_
    refine Ops.ex (Ex.add rfl rfl) rfl rfl rfl ?_
    refine Ops.ex (Ex.move rfl) rfl rfl rfl ?_
    refine Ops.nil ?_
    refine Run.re 9 rfl (congrArg vi (wr_succ' hl7 hc7)) ?_
    exact Run.sub (by exact subB_spec ⟨rfl, rfl, rfl, rfl, trivial⟩) (Run.stop ⟨y3.1.length - (i7 + 1), by omega, i7 + 1, orI (wr (x21 * 256)) (a7.toNat : Int), z20, rfl, by omega, (hnxb7 _).symm.trans hf, rfl, hz22, hy22_0, hst22⟩)
  · replace hf := forL_out hf (nlt_of_dec hc)
    try dsimp only at hf
    refine Run.exit _ rfl ?_
    refine Run.seq ?_
    refine Run.region ?_
    refine Ops.ex (Ex.move rfl) rfl rfl rfl ?_
    refine Ops.ex (Ex.assign rfl) rfl rfl rfl ?_
    refine Ops.nil ?_
    obtain rfl := Option.some.inj hf
    exact Run.retV [vi x21] rfl ⟨rfl, trivial⟩ ⟨z20, A5, c5, rfl, hy22_0, f5, hst22⟩
def go_pack_Reader_Bad (p0 : packReader) : Option Bool :=
  some p0.bad_
set_option maxRecDepth 100000 in
set_option maxHeartbeats 4000000 in
theorem go_pack_Reader_Bad.walk {w0 w : World} {X : List Res} {z0 : Zp} {p0 : packReader} {g0 : Nat} {A1 : Option Addr} {c1 : Nat} {r : Bool} (hst : Ht w0 (frz z0 :: (blk g0 [.slice A1 p0.b_.length c1, vb p0.bad_] 97) :: X) w) (f1 : Sl tU8 z0 A1 c1 p0.b_) (hf : go_pack_Reader_Bad p0 = some r) :
    Calls Try.prog 40 #[.pointer (some ⟨g0, 0, none⟩)] w fun e w' => ∃ (z' : Zp), e = .returned (vb r) ∧ Le z0 z' ∧ Ht w0 (frz z' :: (blk g0 [.slice A1 p0.b_.length c1, vb p0.bad_] 97) :: X) w' := by
  refine calls_np Try.func40 rfl rfl ?_
  have hle0 := Le.refl z0
  unfold go_pack_Reader_Bad at hf
  refine Run.seq ?_
  refine Run.region ?_
  refine Ops.ex (Ex.assign rfl) rfl rfl rfl ?_
  refine Ops.nil ?_
  refine Run.seq ?_
  refine Run.region ?_
  refine Ops.ex (Ex.move rfl) rfl rfl rfl ?_
  refine Ops.ex (Ex.nilCheck rfl) rfl rfl rfl ?_
  refine Ops.ex (Ex.fieldAddr rfl Try.underlying97 rfl sz4) rfl rfl rfl ?_
  refine Ops.load rfl Try.underlying4 rfl (hst.cell (i := 1) rfl rfl) rfl ?_
  refine Ops.ex (Ex.assign rfl) rfl rfl rfl ?_
  refine Ops.nil ?_
  obtain rfl := Option.some.inj hf
  exact Run.retV [vb p0.bad_] rfl ⟨rfl, trivial⟩ ⟨z0, rfl, hle0, hst⟩
def go_pack_Reader_Byte.b1 (y3 : List UInt8 × packReader) (i7 : Nat) (a7 : UInt8) : Unit → (Unit → Option (UInt8 × packReader)) → Option (UInt8 × packReader) :=
  fun _ nxb7 => some (a7, y3.2)
def go_pack_Reader_Byte (p0 : packReader) : Option (UInt8 × packReader) :=
  (go_pack_Reader_take p0 1).bind fun y3 => forL (go_pack_Reader_Byte.b1 y3) (fun _ => some (0, y3.2)) 0 y3.1 ()
set_option maxRecDepth 100000 in
set_option maxHeartbeats 4000000 in
theorem go_pack_Reader_Byte.walk {w0 w : World} {X : List Res} {z0 : Zp} {p0 : packReader} {g0 : Nat} {A1 : Option Addr} {c1 : Nat} {r : UInt8 × packReader} (hst : Ht w0 (frz z0 :: (blk g0 [.slice A1 p0.b_.length c1, vb p0.bad_] 97) :: X) w) (f1 : Sl tU8 z0 A1 c1 p0.b_) (hf : go_pack_Reader_Byte p0 = some r) :
    Calls Try.prog 42 #[.pointer (some ⟨g0, 0, none⟩)] w fun e w' => ∃ (z' : Zp) (A9002 : Option Addr) (c9002 : Nat), e = .returned (vu8 r.1) ∧ Le z0 z' ∧ Sl tU8 z' A9002 c9002 r.2.b_ ∧ Ht w0 (frz z' :: (blk g0 [.slice A9002 r.2.b_.length c9002, vb r.2.bad_] 97) :: X) w' := by
  refine calls_np Try.func42 rfl rfl ?_
  have hle0 := Le.refl z0
  unfold go_pack_Reader_Byte at hf
  refine Run.seq ?_
  refine Run.region ?_
  refine Ops.ex (Ex.assign rfl) rfl rfl rfl ?_
  refine Ops.nil ?_
  refine Run.seq ?_
  refine Run.seq ?_
  refine Run.region ?_
  refine Ops.ex (Ex.move rfl) rfl rfl rfl ?_
  obtain ⟨y3, hy3, hf⟩ := bnd hf
  refine Ops.call rfl rfl Try.func50 (by kernel_rfl) (by kernel_rfl) rfl (go_pack_Reader_take.walk (p0 := p0) (p1 := 1) (hst := hst) (f1 := f1) (hf := hy3)) ?_
  rintro _ w3 ⟨z3, A4, c4, A5, c5, rfl, hz3, f4, f5, hst3⟩
  refine ⟨_, rfl, ?_⟩
  replace hle0 := hle0.trans hz3
  refine Ops.ex (Ex.len' rfl rfl rfl Try.underlying30) rfl rfl rfl ?_
  refine Ops.ex (Ex.move rfl) rfl rfl rfl ?_
  refine Ops.nil ?_
  refine Run.block ?_
  have hc7 := f4.cap
  have hm8 := Le.refl z3
  refine Run.sub (e' := [(6, .slice A4 y3.1.length c4), (7, vi (y3.1.length : Int)), (8, vi ((0 : Nat) : Int))]) (subB_spec ⟨rfl, rfl, rfl, trivial⟩) ?_
  refine Run.loop (fun mb7 => (fun e' w' => ∃ (i7 : Nat) (z18 : Zp), mb7 = y3.1.length - i7 ∧ i7 ≤ y3.1.length ∧ forL (go_pack_Reader_Byte.b1 y3) (fun _ => some (0, y3.2)) i7 (y3.1.drop i7) () = some r ∧ e' = [(6, .slice A4 y3.1.length c4), (7, vi (y3.1.length : Int)), (8, vi (i7 : Int))] ∧ Le z3 z18 ∧ Le z0 z18 ∧ Ht w0 (frz z18 :: (blk g0 [.slice A5 y3.2.b_.length c5, vb y3.2.bad_] 97) :: X) w')) y3.1.length ⟨0, z3, rfl, Nat.zero_le _, hf, rfl, hm8, hle0, hst3⟩ ?_
  rintro _ e' w19 ⟨i7, z18, rfl, hi7, hf, rfl, hz19, hy19_0, hst19⟩
  replace f4 := f4.mono hz19; replace f5 := f5.mono hz19
  refine Run.seq ?_
  refine Run.region ?_
  refine Ops.ex (Ex.lss rfl rfl) rfl rfl rfl ?_
  refine Ops.nil ?_
  refine Run.seq ?_
  refine Run.cond rfl (fun hc => ?_) (fun hc => ?_)
  · have hl7 := lt_of_dec hc
    obtain ⟨a7, nxb7, ha7, hnxb7, hf⟩ := forL_in hf hl7
    unfold go_pack_Reader_Byte.b1 at hf
    try dsimp only at hf
    refine Run.skip ?_
    refine Run.seq ?_
    refine Run.block ?_
    refine Run.seq ?_
    refine Run.region ?_
    obtain ⟨g21, p21, o21, cs21, hA21, ho21, hr21, f21⟩ := SlH.elem f4.toH (atI_nat ha7)
    obtain rfl := hr21
    refine Ops.ex (Ex.ixA hA21 ho21 (atI_nat ha7) rfl rfl rfl Try.underlying30 sz5) rfl rfl rfl ?_
    refine Ops.load rfl Try.underlying5 rfl ((f21.mono hst19.le) 0 _ rfl) rfl ?_
    refine Ops.ex (Ex.assign rfl) rfl rfl rfl ?_
    refine Ops.nil ?_
    refine Run.seq ?_
    refine Run.region ?_
    refine Ops.ex (Ex.move rfl) rfl rfl rfl ?_
    refine Ops.ex (Ex.assign rfl) rfl rfl rfl ?_
    refine Ops.nil ?_
    obtain rfl := Option.some.inj hf
    exact Run.retV [vu8 a7] rfl ⟨rfl, trivial⟩ ⟨z18, A5, c5, rfl, hy19_0, f5, hst19⟩
  · replace hf := forL_out hf (nlt_of_dec hc)
    try dsimp only at hf
    refine Run.exit _ rfl ?_
    refine Run.seq ?_
    refine Run.region ?_
    refine Ops.ex (Ex.assign rfl) rfl rfl rfl ?_
    refine Ops.nil ?_
    obtain rfl := Option.some.inj hf
    exact Run.retV [vu8 0] rfl ⟨rfl, trivial⟩ ⟨z18, A5, c5, rfl, hy19_0, f5, hst19⟩
def go_pack_Reader_Text (p0 : packReader) : Option (Str × packReader) :=
  (go_pack_Reader_Num p0).bind fun y3 => (go_pack_Reader_take y3.2 y3.1).bind fun y7 => some (y7.1, y7.2)
set_option maxRecDepth 100000 in
set_option maxHeartbeats 4000000 in
theorem go_pack_Reader_Text.walk {w0 w : World} {X : List Res} {z0 : Zp} {p0 : packReader} {g0 : Nat} {A1 : Option Addr} {c1 : Nat} {r : Str × packReader} (hst : Ht w0 (frz z0 :: (blk g0 [.slice A1 p0.b_.length c1, vb p0.bad_] 97) :: X) w) (f1 : Sl tU8 z0 A1 c1 p0.b_) (hf : go_pack_Reader_Text p0 = some r) :
    Calls Try.prog 41 #[.pointer (some ⟨g0, 0, none⟩)] w fun e w' => ∃ (z' : Zp) (A9002 : Option Addr) (c9002 : Nat), e = .returned (vs r.1) ∧ Le z0 z' ∧ Sl tU8 z' A9002 c9002 r.2.b_ ∧ Ht w0 (frz z' :: (blk g0 [.slice A9002 r.2.b_.length c9002, vb r.2.bad_] 97) :: X) w' := by
  refine calls_np Try.func41 rfl rfl ?_
  have hle0 := Le.refl z0
  unfold go_pack_Reader_Text at hf
  refine Run.seq ?_
  refine Run.region ?_
  refine Ops.ex (Ex.assign rfl) rfl rfl rfl ?_
  refine Ops.nil ?_
  refine Run.seq ?_
  refine Run.region ?_
  refine Ops.ex (Ex.move rfl) rfl rfl rfl ?_
  refine Ops.ex (Ex.move rfl) rfl rfl rfl ?_
  obtain ⟨y3, hy3, hf⟩ := bnd hf
  refine Ops.call rfl rfl Try.func39 (by kernel_rfl) (by kernel_rfl) rfl (go_pack_Reader_Num.walk (p0 := p0) (hst := hst) (f1 := f1) (hf := hy3)) ?_
  rintro _ w3 ⟨z3, A5, c5, rfl, hz3, f5, hst3⟩
  refine ⟨_, rfl, ?_⟩
  replace hle0 := hle0.trans hz3
  obtain ⟨y7, hy7, hf⟩ := bnd hf
  refine Ops.call rfl rfl Try.func50 (by kernel_rfl) (by kernel_rfl) rfl (go_pack_Reader_take.walk (p0 := y3.2) (p1 := y3.1) (hst := hst3) (f1 := f5) (hf := hy7)) ?_
  rintro _ w7 ⟨z7, A8, c8, A9, c9, rfl, hz7, f8, f9, hst7⟩
  refine ⟨_, rfl, ?_⟩
  replace hle0 := hle0.trans hz7
  refine Ops.str8 (f8.at_ hst7) rfl Try.underlying30 Try.underlying5 Try.underlying9 rfl (?_)
  refine Ops.ex (Ex.assign rfl) rfl rfl rfl ?_
  refine Ops.nil ?_
  obtain rfl := Option.some.inj hf
  exact Run.retV [vs y7.1] rfl ⟨rfl, trivial⟩ ⟨z7, A9, c9, rfl, hle0, f9, hst7⟩
def go_pack_Reader_Done (p0 : packReader) : Option Bool :=
  if p0.bad_ then (some false) else (some (decide ((p0.b_.length : Int) = 0)))
set_option maxRecDepth 100000 in
set_option maxHeartbeats 4000000 in
theorem go_pack_Reader_Done.walk {w0 w : World} {X : List Res} {z0 : Zp} {p0 : packReader} {g0 : Nat} {A1 : Option Addr} {c1 : Nat} {r : Bool} (hst : Ht w0 (frz z0 :: (blk g0 [.slice A1 p0.b_.length c1, vb p0.bad_] 97) :: X) w) (f1 : Sl tU8 z0 A1 c1 p0.b_) (hf : go_pack_Reader_Done p0 = some r) :
    Calls Try.prog 43 #[.pointer (some ⟨g0, 0, none⟩)] w fun e w' => ∃ (z' : Zp), e = .returned (vb r) ∧ Le z0 z' ∧ Ht w0 (frz z' :: (blk g0 [.slice A1 p0.b_.length c1, vb p0.bad_] 97) :: X) w' := by
  refine calls_np Try.func43 rfl rfl ?_
  have hle0 := Le.refl z0
  unfold go_pack_Reader_Done at hf
  refine Run.seq ?_
  refine Run.region ?_
  refine Ops.ex (Ex.assign rfl) rfl rfl rfl ?_
  refine Ops.nil ?_
  refine Run.seq ?_
  refine Run.region ?_
  refine Ops.ex (Ex.move rfl) rfl rfl rfl ?_
  refine Ops.ex (Ex.nilCheck rfl) rfl rfl rfl ?_
  refine Ops.ex (Ex.fieldAddr rfl Try.underlying97 rfl sz4) rfl rfl rfl ?_
  refine Ops.load rfl Try.underlying4 rfl (hst.cell (i := 1) rfl rfl) rfl ?_
  refine Ops.ex (Ex.not rfl) rfl rfl rfl ?_
  refine Ops.ex (Ex.move rfl) rfl rfl rfl ?_
  refine Ops.case 8 rfl (fun hc => ?_) (fun hc => ?_)
  · replace hf := ifFb (bn_T hc) hf
    refine Ops.on rfl ?_
    refine Ops.ex (Ex.move rfl) rfl rfl rfl ?_
    refine Ops.on rfl ?_
    refine Ops.ex (Ex.nilCheck rfl) rfl rfl rfl ?_
    refine Ops.on rfl ?_
    refine Ops.ex (Ex.fieldAddr rfl Try.underlying97 rfl sz30) rfl rfl rfl ?_
    refine Ops.on rfl ?_
    refine Ops.load rfl Try.underlying30 rfl (hst.cell (i := 1) rfl rfl) rfl ?_
    refine Ops.on rfl ?_
    refine Ops.ex (Ex.len' rfl rfl rfl Try.underlying30) rfl rfl rfl ?_
    refine Ops.on rfl ?_
    refine Ops.ex (Ex.eqlI rfl rfl) rfl rfl rfl ?_
    refine Ops.ex (Ex.pickT rfl rfl) rfl rfl rfl ?_
    refine Ops.ex (Ex.assign rfl) rfl rfl rfl ?_
    refine Ops.nil ?_
    obtain rfl := Option.some.inj hf
    exact Run.retV [vb (decide ((p0.b_.length : Int) = 0))] rfl ⟨rfl, trivial⟩ ⟨z0, rfl, hle0, hst⟩
  · replace hf := ifTb (bn_F hc) hf
    refine Ops.off rfl rfl ?_
    refine Ops.off rfl rfl ?_
    refine Ops.off rfl rfl ?_
    refine Ops.off rfl rfl ?_
    refine Ops.off rfl rfl ?_
    refine Ops.off rfl rfl ?_
    refine Ops.ex (Ex.pickF rfl rfl) rfl rfl rfl ?_
    refine Ops.ex (Ex.assign rfl) rfl rfl rfl ?_
    refine Ops.nil ?_
    obtain rfl := Option.some.inj hf
    exact Run.retV [vb false] rfl ⟨rfl, trivial⟩ ⟨z0, rfl, hle0, hst⟩
end Go.Proofs.Ytjlhookdigbjhaa.E4
