/- Edits: Bytes, Read. -/
import Derived.Test.YtjlhookdigbjhaaE4
namespace Go.Proofs.Ytjlhookdigbjhaa.E5
open Go Go.RowKit Go.Proofs.Ytjlhookdigbjhaa.Sx Go.Proofs.Ytjlhookdigbjhaa.E1 Go.Proofs.Ytjlhookdigbjhaa.E2 Go.Proofs.Ytjlhookdigbjhaa.E3 Go.Proofs.Ytjlhookdigbjhaa.E4
set_option linter.unusedVariables false
set_option linter.unusedSimpArgs false
theorem zr76 : (Try.prog.info? 76).map (·.zero) = some (some (.agg #[.slice none 0 0])) := by kernel_rfl
theorem pl76 {fs : Array Field} (h : Try.prog.underlying 76 = some (.struct fs)) (w : World) : (fs.mapM fun f => do pure (f.offset, ← sizeOf f.type) : Sem (Array (Nat × Nat))).run Try.prog w = .ok #[(0, 1)] w := by
  rw [Try.underlying76] at h
  cases h
  kernel_rfl
def go_edits_Bytes.b2 (i136 : Nat) (a136 : Str) : (List UInt8) → (List UInt8 → Option (List UInt8)) → Option (List UInt8) :=
  fun l156 nxb136 => (go_pack_Writer_Text (⟨l156⟩ : packWriter) a136).bind fun y160 => nxb136 y160.b_
def go_edits_Bytes.b1 (i13 : Nat) (a13 : apiRef) : (List UInt8) → (List UInt8 → Option (List UInt8)) → Option (List UInt8) :=
  fun l115 nxb13 => (go_pack_Writer_Text (⟨l115⟩ : packWriter) a13.Name).bind fun y126 => (go_pack_Writer_Byte y126 (toU8 a13.Kind)).bind fun y128 => (go_pack_Writer_Num y128 a13.From).bind fun y130 => (go_pack_Writer_Num y130 a13.To).bind fun y132 => nxb13 y132.b_
def go_edits_Bytes (p0 : editsEdit) : Option (List UInt8) :=
  (go_pack_Writer_Num (⟨[]⟩ : packWriter) p0.Floor).bind fun y7 => (go_pack_Writer_Num y7 (p0.Add.length : Int)).bind fun y11 => forL (go_edits_Bytes.b1) (fun l115 => (go_pack_Writer_Num (⟨l115⟩ : packWriter) (p0.Drop.length : Int)).bind fun y134 => forL (go_edits_Bytes.b2) (fun l156 => (go_pack_Writer_Bytes (⟨l156⟩ : packWriter)).bind fun y162 => some y162) 0 p0.Drop y134.b_) 0 p0.Add y11.b_
set_option maxRecDepth 100000 in
set_option maxHeartbeats 4000000 in
theorem go_edits_Bytes.walk {w0 w : World} {X : List Res} {z0 : Zp} {p0 : editsEdit} {A1 : Option Addr} {c1 : Nat} {A2 : Option Addr} {c2 : Nat} {r : List UInt8} (hst : Ht w0 (frz z0 :: X) w) (f1 : Sl tapiRef z0 A1 c1 p0.Add) (f2 : Sl tS z0 A2 c2 p0.Drop) (hf : go_edits_Bytes p0 = some r) :
    Calls Try.prog 18 #[.agg #[.slice A1 p0.Add.length c1, .slice A2 p0.Drop.length c2, vi p0.Floor]] w fun e w' => ∃ (z' : Zp) (A9001 : Option Addr) (c9001 : Nat), e = .returned (.slice A9001 r.length c9001) ∧ Le z0 z' ∧ Sl tU8 z' A9001 c9001 r ∧ Ht w0 (frz z' :: X) w' := by
  refine calls_np Try.func18 rfl rfl ?_
  have hle0 := Le.refl z0
  unfold go_edits_Bytes at hf
  refine Run.seq ?_
  refine Run.region ?_
  refine Ops.boxF [.slice A1 p0.Add.length c1, .slice A2 p0.Drop.length c2, vi p0.Floor] hst rfl rfl rfl (fun g4 w4 hst4 => ?_)
  refine Ops.ex (Ex.assign rfl) rfl rfl rfl ?_
  refine Ops.nil ?_
  refine Run.seq ?_
  refine Run.region ?_
  refine Ops.ex (Ex.build [.slice none 0 0] rfl Try.underlying76 zr76 (pl76 Try.underlying76) (by kernel_rfl)) rfl rfl rfl ?_
  refine Ops.boxF [.slice none 0 0] hst4 rfl rfl rfl (fun g5 w5 hst5 => ?_)
  refine Ops.ex (Ex.assign rfl) rfl rfl rfl ?_
  refine Ops.nil ?_
  refine Run.seq ?_
  refine Run.drawH [([], fun w => ∃ ζ Y, Le z0 ζ ∧ Ht w0 (frz ζ :: (blk g4 [.slice A1 p0.Add.length c1, .slice A2 p0.Drop.length c2, vi p0.Floor] 29) :: Y) w), ([3, 7], fun w => ∃ ζ Y, Le z0 ζ ∧ Ht w0 (frz ζ :: (blk g5 [.slice none 0 0] 76) :: Y) w)] (by kernel_rfl) hst5 (fun w6 hst6 => ?_)
  have hS0 := (⟨_, _, (Le.refl _), (St.up (St.up hst6 2 rfl) 1 rfl)⟩ : (fun w => ∃ ζ Y, Le z0 ζ ∧ Ht w0 (frz ζ :: (blk g4 [.slice A1 p0.Add.length c1, .slice A2 p0.Drop.length c2, vi p0.Floor] 29) :: Y) w) _)
  have hS1 := (⟨_, _, (Le.refl _), (St.up (St.up hst6 1 rfl) 1 rfl)⟩ : (fun w => ∃ ζ Y, Le z0 ζ ∧ Ht w0 (frz ζ :: (blk g5 [.slice none 0 0] 76) :: Y) w) _)
  refine Any.takeE 0 rfl rfl rfl rfl (by kernel_rfl) (fun _ _ _ _ _ h => h) ((Ex.move rfl).s) ?_
  refine Any.takeE 1 rfl rfl rfl rfl (by kernel_rfl) (fun _ _ _ _ _ h => h) ((Ex.fieldAddr rfl Try.underlying29 rfl sz3).s) ?_
  refine Any.take 0 2 rfl rfl rfl rfl rfl (by kernel_rfl) (fun _ _ _ _ _ h => h) (ExS.load rfl Try.underlying3 rfl (fun w hS => by obtain ⟨_, _, _, hs⟩ := hS; exact hs.cell (i := 1) rfl rfl)) hS0 ?_
  refine Any.takeE 4 rfl rfl rfl rfl (by kernel_rfl) (fun _ _ _ _ _ h => h) ((Ex.fieldAddr rfl Try.underlying29 rfl sz26).s) ?_
  refine Any.take 0 5 rfl rfl rfl rfl rfl (by kernel_rfl) (fun _ _ _ _ _ h => h) (ExS.load rfl Try.underlying26 rfl (fun w hS => by obtain ⟨_, _, _, hs⟩ := hS; exact hs.cell (i := 1) rfl rfl)) hS0 ?_
  refine Any.takeE 6 rfl rfl rfl rfl (by kernel_rfl) (fun _ _ _ _ _ h => h) ((Ex.len' rfl rfl rfl Try.underlying26).s) ?_
  have hst8 := St.row0 hst6 5 1
  obtain ⟨y7, hy7, hf⟩ := bnd hf
  refine Any.one 3 (by kernel_rfl) rfl rfl (One.of_ops rfl ?_)
  refine Ops.call rfl rfl Try.func34 (by kernel_rfl) (by kernel_rfl) rfl (go_pack_Writer_Num.walk (p0 := (⟨[]⟩ : packWriter)) (p1 := p0.Floor) (hst := (St.up (St.up (St.up (St.up hst8 3 rfl) 2 rfl) 3 rfl) 3 rfl)) (f1 := (Cs.nil tU8 z0)) (hf := hy7)) ?_
  rintro _ w7 ⟨z7, A10, c10, d10, rfl, hz7, f10, hst7⟩
  refine ⟨_, rfl, Ops.stop ?_⟩
  replace f1 := f1.mono hz7; replace f2 := f2.mono hz7
  replace hle0 := hle0.trans hz7
  have hS0 := (⟨_, _, hle0, (St.up (St.up hst7 3 rfl) 1 rfl)⟩ : (fun w => ∃ ζ Y, Le z0 ζ ∧ Ht w0 (frz ζ :: (blk g4 [.slice A1 p0.Add.length c1, .slice A2 p0.Drop.length c2, vi p0.Floor] 29) :: Y) w) _)
  refine ⟨⟨.inr (fun _ => hS0), .inl (by decide), trivial⟩, ?_⟩
  obtain ⟨y11, hy11, hf⟩ := bnd hf
  refine Any.one 7 (by kernel_rfl) rfl rfl (One.of_ops rfl ?_)
  refine Ops.call rfl rfl Try.func34 (by kernel_rfl) (by kernel_rfl) rfl (go_pack_Writer_Num.walk (p0 := y7) (p1 := (p0.Add.length : Int)) (hst := hst7) (f1 := f10) (hf := hy11)) ?_
  rintro _ w11 ⟨z11, A12, c12, d12, rfl, hz11, f12, hst11⟩
  refine ⟨_, rfl, Ops.stop ?_⟩
  replace f1 := f1.mono hz11; replace f2 := f2.mono hz11
  replace hle0 := hle0.trans hz11
  have hS0 := (⟨_, _, hle0, (St.up (St.up hst11 3 rfl) 1 rfl)⟩ : (fun w => ∃ ζ Y, Le z0 ζ ∧ Ht w0 (frz ζ :: (blk g4 [.slice A1 p0.Add.length c1, .slice A2 p0.Drop.length c2, vi p0.Floor] 29) :: Y) w) _)
  refine ⟨⟨.inr (fun _ => hS0), .inl (by decide), trivial⟩, ?_⟩
  refine Any.done (by kernel_rfl) ?_
  refine Run.seq ?_
  refine Run.seq ?_
  refine Run.region ?_
  refine Ops.ex (Ex.fieldAddr rfl Try.underlying29 rfl sz26) rfl rfl rfl ?_
  refine Ops.load rfl Try.underlying26 rfl (hst11.cell (i := 3) rfl rfl) rfl ?_
  refine Ops.ex (Ex.len' rfl rfl rfl Try.underlying26) rfl rfl rfl ?_
  refine Ops.ex (Ex.move rfl) rfl rfl rfl ?_
  refine Ops.nil ?_
  refine Run.block ?_
  have hc13 := f1.cap
  have hm14 := Le.refl z11
  refine Run.sub (e' := [(1, .pointer (some ⟨g4, 0, none⟩)), (3, .pointer (some ⟨g5, 0, none⟩)), (19, .slice A1 p0.Add.length c1), (20, vi (p0.Add.length : Int)), (21, vi ((0 : Nat) : Int))]) (subB_spec ⟨rfl, rfl, rfl, rfl, rfl, trivial⟩) ?_
  refine Run.loop (fun mb13 => (fun e' w' => ∃ (i13 : Nat) (l115 : List UInt8) (A115 : Option Addr) (c115 : Nat) (d115 : List Value) (z114 : Zp), mb13 = p0.Add.length - i13 ∧ i13 ≤ p0.Add.length ∧ forL (go_edits_Bytes.b1) (fun l115 => (go_pack_Writer_Num (⟨l115⟩ : packWriter) (p0.Drop.length : Int)).bind fun y134 => forL (go_edits_Bytes.b2) (fun l156 => (go_pack_Writer_Bytes (⟨l156⟩ : packWriter)).bind fun y162 => some y162) 0 p0.Drop y134.b_) i13 (p0.Add.drop i13) l115 = some r ∧ e' = [(1, .pointer (some ⟨g4, 0, none⟩)), (3, .pointer (some ⟨g5, 0, none⟩)), (19, .slice A1 p0.Add.length c1), (20, vi (p0.Add.length : Int)), (21, vi (i13 : Int))] ∧ Le z11 z114 ∧ Le z0 z114 ∧ Cs tU8 z114 d115 l115 ∧ Ht w0 (frz z114 :: (orow 5 1 (.slice A115 l115.length c115) l115.length d115) :: (blk g5 [.slice A115 l115.length c115] 76) :: (blk g4 [.slice A1 p0.Add.length c1, .slice A2 p0.Drop.length c2, vi p0.Floor] 29) :: X) w')) p0.Add.length ⟨0, y11.b_, A12, c12, d12, z11, rfl, Nat.zero_le _, hf, rfl, hm14, hle0, f12, (St.up (St.up (St.up (St.up hst11 3 rfl) 2 rfl) 3 rfl) 3 rfl)⟩ ?_
  rintro _ e' w116 ⟨i13, l115, A115, c115, d115, z114, rfl, hi13, hf, rfl, hz116, hy116_0, f115, hst116⟩
  replace f1 := f1.mono hz116; replace f2 := f2.mono hz116
  refine Run.seq ?_
  refine Run.region ?_
  refine Ops.ex (Ex.lss rfl rfl) rfl rfl rfl ?_
  refine Ops.nil ?_
  refine Run.seq ?_
  refine Run.cond rfl (fun hc => ?_) (fun hc => ?_)
  · have hl13 := lt_of_dec hc
    obtain ⟨a13, nxb13, ha13, hnxb13, hf⟩ := forL_in hf hl13
    unfold go_edits_Bytes.b1 at hf
    try dsimp only at hf
    refine Run.skip ?_
    refine Run.seq ?_
    refine Run.block ?_
    refine Run.seq ?_
    refine Run.region ?_
    obtain ⟨g121, p121, o121, cs121, hA121, ho121, hr121, f121⟩ := SlH.elem f1.toH (atI_nat ha13)
    obtain rfl := hr121
    refine Ops.ex (Ex.ixA hA121 ho121 (atI_nat ha13) rfl rfl rfl Try.underlying26 sz24) rfl rfl rfl ?_
    refine Ops.loadAgg [vs a13.Name, vi a13.Kind, vi a13.From, vi a13.To] rfl Try.underlying24 rfl sz24 rfl (cells_of_zc rfl (f121.mono hst116.le)) rfl ?_
    refine Ops.allocF [vs [], vi 0, vi 0, vi 0] hst116 zr24 rfl rfl (fun g122 w122 hst122 => ?_)
    refine Ops.store 1 [vs a13.Name, vi a13.Kind, vi a13.From, vi a13.To] hst122 rfl rfl rfl rfl sz24 rfl (by simp [Value.oneCell']) (by simp) (fun w123 hst123 => ?_)
    refine Ops.nil ?_
    have hm125 := Le.refl z114
    refine Run.drawH [([], fun w => ∃ ζ Y, Le z114 ζ ∧ Ht w0 (frz ζ :: (blk g122 [vs a13.Name, vi a13.Kind, vi a13.From, vi a13.To] 24) :: (blk g4 [.slice A1 p0.Add.length c1, .slice A2 p0.Drop.length c2, vi p0.Floor] 29) :: Y) w), ([3, 7, 10, 13], fun w => ∃ ζ Y, Le z114 ζ ∧ Ht w0 (frz ζ :: (blk g5 [.slice A115 l115.length c115] 76) :: Y) w), ([3, 7, 10, 13], fun w => ∃ ζ Y, Le z114 ζ ∧ Ht w0 (frz ζ :: (orow 5 1 (.slice A115 l115.length c115) l115.length d115) :: Y) w)] (by kernel_rfl) hst123 (fun w124 hst124 => ?_)
    have hS0 := (⟨_, _, (Le.refl _), (St.up (St.up (St.up hst124 4 rfl) 2 rfl) 2 rfl)⟩ : (fun w => ∃ ζ Y, Le z114 ζ ∧ Ht w0 (frz ζ :: (blk g122 [vs a13.Name, vi a13.Kind, vi a13.From, vi a13.To] 24) :: (blk g4 [.slice A1 p0.Add.length c1, .slice A2 p0.Drop.length c2, vi p0.Floor] 29) :: Y) w) _)
    have hS1 := (⟨_, _, (Le.refl _), (St.up (St.up hst124 3 rfl) 1 rfl)⟩ : (fun w => ∃ ζ Y, Le z114 ζ ∧ Ht w0 (frz ζ :: (blk g5 [.slice A115 l115.length c115] 76) :: Y) w) _)
    have hS2 := (⟨_, _, (Le.refl _), (St.up (St.up hst124 2 rfl) 1 rfl)⟩ : (fun w => ∃ ζ Y, Le z114 ζ ∧ Ht w0 (frz ζ :: (orow 5 1 (.slice A115 l115.length c115) l115.length d115) :: Y) w) _)
    refine Any.takeE 0 rfl rfl rfl rfl (by kernel_rfl) (fun _ _ _ _ _ h => h) ((Ex.move rfl).s) ?_
    refine Any.takeE 1 rfl rfl rfl rfl (by kernel_rfl) (fun _ _ _ _ _ h => h) ((Ex.fieldAddr rfl Try.underlying24 rfl sz9).s) ?_
    refine Any.take 0 2 rfl rfl rfl rfl rfl (by kernel_rfl) (fun _ _ _ _ _ h => h) (ExS.load rfl Try.underlying9 rfl (fun w hS => by obtain ⟨_, _, _, hs⟩ := hS; exact hs.cell (i := 1) rfl rfl)) hS0 ?_
    refine Any.takeE 4 rfl rfl rfl rfl (by kernel_rfl) (fun _ _ _ _ _ h => h) ((Ex.fieldAddr rfl Try.underlying24 rfl sz22).s) ?_
    refine Any.take 0 5 rfl rfl rfl rfl rfl (by kernel_rfl) (fun _ _ _ _ _ h => h) (ExS.load rfl Try.underlying22 rfl (fun w hS => by obtain ⟨_, _, _, hs⟩ := hS; exact hs.cell (i := 1) rfl rfl)) hS0 ?_
    refine Any.takeE 6 rfl rfl rfl rfl (by kernel_rfl) (fun _ _ _ _ _ h => h) ((Ex.cto8 rfl Try.underlying22 Try.underlying5).s) ?_
    refine Any.takeE 8 rfl rfl rfl rfl (by kernel_rfl) (fun _ _ _ _ _ h => h) ((Ex.fieldAddr rfl Try.underlying24 rfl sz3).s) ?_
    refine Any.take 0 9 rfl rfl rfl rfl rfl (by kernel_rfl) (fun _ _ _ _ _ h => h) (ExS.load rfl Try.underlying3 rfl (fun w hS => by obtain ⟨_, _, _, hs⟩ := hS; exact hs.cell (i := 1) rfl rfl)) hS0 ?_
    refine Any.takeE 11 rfl rfl rfl rfl (by kernel_rfl) (fun _ _ _ _ _ h => h) ((Ex.fieldAddr rfl Try.underlying24 rfl sz3).s) ?_
    refine Any.take 0 12 rfl rfl rfl rfl rfl (by kernel_rfl) (fun _ _ _ _ _ h => h) (ExS.load rfl Try.underlying3 rfl (fun w hS => by obtain ⟨_, _, _, hs⟩ := hS; exact hs.cell (i := 1) rfl rfl)) hS0 ?_
    obtain ⟨y126, hy126, hf⟩ := bnd hf
    refine Any.one 3 (by kernel_rfl) rfl rfl (One.of_ops rfl ?_)
    refine Ops.call rfl rfl Try.func35 (by kernel_rfl) (by kernel_rfl) rfl (go_pack_Writer_Text.walk (p0 := (⟨l115⟩ : packWriter)) (p1 := a13.Name) (hst := (St.up (St.up (St.up (St.up (St.up hst124 4 rfl) 2 rfl) 3 rfl) 4 rfl) 4 rfl)) (f1 := f115) (hf := hy126)) ?_
    rintro _ w126 ⟨z126, A127, c127, d127, rfl, hz126, f127, hst126⟩
    refine ⟨_, rfl, Ops.stop ?_⟩
    replace f1 := f1.mono hz126; replace f121 := f121.mono hz126; replace f2 := f2.mono hz126
    replace hy116_0 := hy116_0.trans hz126
    replace hz116 := hz116.trans hz126
    replace hm125 := hm125.trans hz126
    have hS0 := (⟨_, _, hm125, (St.up (St.up (St.up hst126 4 rfl) 4 rfl) 2 rfl)⟩ : (fun w => ∃ ζ Y, Le z114 ζ ∧ Ht w0 (frz ζ :: (blk g122 [vs a13.Name, vi a13.Kind, vi a13.From, vi a13.To] 24) :: (blk g4 [.slice A1 p0.Add.length c1, .slice A2 p0.Drop.length c2, vi p0.Floor] 29) :: Y) w) _)
    refine ⟨⟨.inr (fun _ => hS0), .inl (by decide), .inl (by decide), trivial⟩, ?_⟩
    obtain ⟨y128, hy128, hf⟩ := bnd hf
    refine Any.one 7 (by kernel_rfl) rfl rfl (One.of_ops rfl ?_)
    refine Ops.call rfl rfl Try.func36 (by kernel_rfl) (by kernel_rfl) rfl (go_pack_Writer_Byte.walk (p0 := y126) (p1 := toU8 a13.Kind) (hst := hst126) (f1 := f127) (hf := hy128)) ?_
    rintro _ w128 ⟨z128, A129, c129, d129, rfl, hz128, f129, hst128⟩
    refine ⟨_, rfl, Ops.stop ?_⟩
    replace f1 := f1.mono hz128; replace f121 := f121.mono hz128; replace f2 := f2.mono hz128
    replace hy116_0 := hy116_0.trans hz128
    replace hz116 := hz116.trans hz128
    replace hm125 := hm125.trans hz128
    have hS0 := (⟨_, _, hm125, (St.up (St.up (St.up hst128 4 rfl) 4 rfl) 2 rfl)⟩ : (fun w => ∃ ζ Y, Le z114 ζ ∧ Ht w0 (frz ζ :: (blk g122 [vs a13.Name, vi a13.Kind, vi a13.From, vi a13.To] 24) :: (blk g4 [.slice A1 p0.Add.length c1, .slice A2 p0.Drop.length c2, vi p0.Floor] 29) :: Y) w) _)
    refine ⟨⟨.inr (fun _ => hS0), .inl (by decide), .inl (by decide), trivial⟩, ?_⟩
    obtain ⟨y130, hy130, hf⟩ := bnd hf
    refine Any.one 10 (by kernel_rfl) rfl rfl (One.of_ops rfl ?_)
    refine Ops.call rfl rfl Try.func34 (by kernel_rfl) (by kernel_rfl) rfl (go_pack_Writer_Num.walk (p0 := y128) (p1 := a13.From) (hst := hst128) (f1 := f129) (hf := hy130)) ?_
    rintro _ w130 ⟨z130, A131, c131, d131, rfl, hz130, f131, hst130⟩
    refine ⟨_, rfl, Ops.stop ?_⟩
    replace f1 := f1.mono hz130; replace f121 := f121.mono hz130; replace f2 := f2.mono hz130
    replace hy116_0 := hy116_0.trans hz130
    replace hz116 := hz116.trans hz130
    replace hm125 := hm125.trans hz130
    have hS0 := (⟨_, _, hm125, (St.up (St.up (St.up hst130 4 rfl) 4 rfl) 2 rfl)⟩ : (fun w => ∃ ζ Y, Le z114 ζ ∧ Ht w0 (frz ζ :: (blk g122 [vs a13.Name, vi a13.Kind, vi a13.From, vi a13.To] 24) :: (blk g4 [.slice A1 p0.Add.length c1, .slice A2 p0.Drop.length c2, vi p0.Floor] 29) :: Y) w) _)
    refine ⟨⟨.inr (fun _ => hS0), .inl (by decide), .inl (by decide), trivial⟩, ?_⟩
    obtain ⟨y132, hy132, hf⟩ := bnd hf
    refine Any.one 13 (by kernel_rfl) rfl rfl (One.of_ops rfl ?_)
    refine Ops.call rfl rfl Try.func34 (by kernel_rfl) (by kernel_rfl) rfl (go_pack_Writer_Num.walk (p0 := y130) (p1 := a13.To) (hst := hst130) (f1 := f131) (hf := hy132)) ?_
    rintro _ w132 ⟨z132, A133, c133, d133, rfl, hz132, f133, hst132⟩
    refine ⟨_, rfl, Ops.stop ?_⟩
    replace f1 := f1.mono hz132; replace f121 := f121.mono hz132; replace f2 := f2.mono hz132
    replace hy116_0 := hy116_0.trans hz132
    replace hz116 := hz116.trans hz132
    replace hm125 := hm125.trans hz132
    have hS0 := (⟨_, _, hm125, (St.up (St.up (St.up hst132 4 rfl) 4 rfl) 2 rfl)⟩ : (fun w => ∃ ζ Y, Le z114 ζ ∧ Ht w0 (frz ζ :: (blk g122 [vs a13.Name, vi a13.Kind, vi a13.From, vi a13.To] 24) :: (blk g4 [.slice A1 p0.Add.length c1, .slice A2 p0.Drop.length c2, vi p0.Floor] 29) :: Y) w) _)
    refine ⟨⟨.inr (fun _ => hS0), .inl (by decide), .inl (by decide), trivial⟩, ?_⟩
    refine Any.done (by kernel_rfl) ?_
    refine Run.endBlk ?_
    refine Run.region ?_
    refine Ops.ex (Ex.add rfl rfl) rfl rfl rfl ?_
    refine Ops.ex (Ex.move rfl) rfl rfl rfl ?_
    refine Ops.nil ?_
    refine Run.re 21 rfl (congrArg vi (wr_succ' hl13 hc13)) ?_
    exact Run.sub (by exact subB_spec ⟨rfl, rfl, rfl, rfl, rfl, trivial⟩) (Run.stop ⟨p0.Add.length - (i13 + 1), by omega, i13 + 1, y132.b_, A133, c133, d133, z132, rfl, by omega, (hnxb13 _).symm.trans hf, rfl, hz116, hy116_0, f133, (St.up (St.up (St.up (St.up (St.forget hst132 3) 3 rfl) 2 rfl) 3 rfl) 3 rfl)⟩)
  · replace hf := forL_out hf (nlt_of_dec hc)
    try dsimp only at hf
    refine Run.exit _ rfl ?_
    refine Run.seq ?_
    refine Run.region ?_
    refine Ops.ex (Ex.move rfl) rfl rfl rfl ?_
    refine Ops.ex (Ex.fieldAddr rfl Try.underlying29 rfl sz27) rfl rfl rfl ?_
    refine Ops.load rfl Try.underlying27 rfl (hst116.cell (i := 3) rfl rfl) rfl ?_
    refine Ops.ex (Ex.len' rfl rfl rfl Try.underlying27) rfl rfl rfl ?_
    obtain ⟨y134, hy134, hf⟩ := bnd hf
    refine Ops.call rfl rfl Try.func34 (by kernel_rfl) (by kernel_rfl) rfl (go_pack_Writer_Num.walk (p0 := (⟨l115⟩ : packWriter)) (p1 := (p0.Drop.length : Int)) (hst := (St.up (St.up (St.up (St.up hst116 3 rfl) 2 rfl) 3 rfl) 3 rfl)) (f1 := f115) (hf := hy134)) ?_
    rintro _ w134 ⟨z134, A135, c135, d135, rfl, hz134, f135, hst134⟩
    refine ⟨_, rfl, ?_⟩
    replace f1 := f1.mono hz134; replace f2 := f2.mono hz134
    replace hy116_0 := hy116_0.trans hz134
    replace hz116 := hz116.trans hz134
    refine Ops.nil ?_
    refine Run.seq ?_
    refine Run.seq ?_
    refine Run.region ?_
    refine Ops.ex (Ex.fieldAddr rfl Try.underlying29 rfl sz27) rfl rfl rfl ?_
    refine Ops.load rfl Try.underlying27 rfl (hst134.cell (i := 3) rfl rfl) rfl ?_
    refine Ops.ex (Ex.len' rfl rfl rfl Try.underlying27) rfl rfl rfl ?_
    refine Ops.ex (Ex.move rfl) rfl rfl rfl ?_
    refine Ops.nil ?_
    refine Run.block ?_
    have hc136 := f2.cap
    have hm137 := Le.refl z134
    refine Run.sub (e' := [(3, .pointer (some ⟨g5, 0, none⟩)), (46, .slice A2 p0.Drop.length c2), (47, vi (p0.Drop.length : Int)), (48, vi ((0 : Nat) : Int))]) (subB_spec ⟨rfl, rfl, rfl, rfl, trivial⟩) ?_
    refine Run.loop (fun mb136 => (fun e' w' => ∃ (i136 : Nat) (l156 : List UInt8) (A156 : Option Addr) (c156 : Nat) (d156 : List Value) (z155 : Zp), mb136 = p0.Drop.length - i136 ∧ i136 ≤ p0.Drop.length ∧ forL (go_edits_Bytes.b2) (fun l156 => (go_pack_Writer_Bytes (⟨l156⟩ : packWriter)).bind fun y162 => some y162) i136 (p0.Drop.drop i136) l156 = some r ∧ e' = [(3, .pointer (some ⟨g5, 0, none⟩)), (46, .slice A2 p0.Drop.length c2), (47, vi (p0.Drop.length : Int)), (48, vi (i136 : Int))] ∧ Le z134 z155 ∧ Le z0 z155 ∧ Le z11 z155 ∧ Cs tU8 z155 d156 l156 ∧ Ht w0 (frz z155 :: (orow 5 1 (.slice A156 l156.length c156) l156.length d156) :: (blk g5 [.slice A156 l156.length c156] 76) :: X) w')) p0.Drop.length ⟨0, y134.b_, A135, c135, d135, z134, rfl, Nat.zero_le _, hf, rfl, hm137, hy116_0, hz116, f135, (St.up (St.up (St.up (St.forget hst134 3) 1 rfl) 2 rfl) 2 rfl)⟩ ?_
    rintro _ e' w157 ⟨i136, l156, A156, c156, d156, z155, rfl, hi136, hf, rfl, hz157, hy157_0, hy157_1, f156, hst157⟩
    replace f2 := f2.mono hz157
    refine Run.seq ?_
    refine Run.region ?_
    refine Ops.ex (Ex.lss rfl rfl) rfl rfl rfl ?_
    refine Ops.nil ?_
    refine Run.seq ?_
    refine Run.cond rfl (fun hc => ?_) (fun hc => ?_)
    · have hl136 := lt_of_dec hc
      obtain ⟨a136, nxb136, ha136, hnxb136, hf⟩ := forL_in hf hl136
      unfold go_edits_Bytes.b2 at hf
      try dsimp only at hf
      refine Run.skip ?_
      refine Run.seq ?_
      refine Run.block ?_
      refine Run.seq ?_
      refine Run.region ?_
      obtain ⟨g159, p159, o159, cs159, hA159, ho159, hr159, f159⟩ := SlH.elem f2.toH (atI_nat ha136)
      obtain rfl := hr159
      refine Ops.ex (Ex.ixA hA159 ho159 (atI_nat ha136) rfl rfl rfl Try.underlying27 sz9) rfl rfl rfl ?_
      refine Ops.load rfl Try.underlying9 rfl ((f159.mono hst157.le) 0 _ rfl) rfl ?_
      refine Ops.ex (Ex.assign rfl) rfl rfl rfl ?_
      refine Ops.nil ?_
      refine Run.region ?_
      refine Ops.ex (Ex.move rfl) rfl rfl rfl ?_
      refine Ops.ex (Ex.move rfl) rfl rfl rfl ?_
      obtain ⟨y160, hy160, hf⟩ := bnd hf
      refine Ops.call rfl rfl Try.func35 (by kernel_rfl) (by kernel_rfl) rfl (go_pack_Writer_Text.walk (p0 := (⟨l156⟩ : packWriter)) (p1 := a136) (hst := (St.up (St.up (St.up hst157 1 rfl) 2 rfl) 2 rfl)) (f1 := f156) (hf := hy160)) ?_
      rintro _ w160 ⟨z160, A161, c161, d161, rfl, hz160, f161, hst160⟩
      refine ⟨_, rfl, ?_⟩
      replace f2 := f2.mono hz160; replace f159 := f159.mono hz160
      replace hy157_0 := hy157_0.trans hz160
      replace hy157_1 := hy157_1.trans hz160
      replace hz157 := hz157.trans hz160
      refine Ops.nil ?_
      refine Run.endBlk ?_
      refine Run.region ?_
      refine Ops.ex (Ex.add rfl rfl) rfl rfl rfl ?_
      refine Ops.ex (Ex.move rfl) rfl rfl rfl ?_
      refine Ops.nil ?_
      refine Run.re 48 rfl (congrArg vi (wr_succ' hl136 hc136)) ?_
      exact Run.sub (by exact subB_spec ⟨rfl, rfl, rfl, rfl, trivial⟩) (Run.stop ⟨p0.Drop.length - (i136 + 1), by omega, i136 + 1, y160.b_, A161, c161, d161, z160, rfl, by omega, (hnxb136 _).symm.trans hf, rfl, hz157, hy157_0, hy157_1, f161, (St.up (St.up (St.up hst160 1 rfl) 2 rfl) 2 rfl)⟩)
    · replace hf := forL_out hf (nlt_of_dec hc)
      try dsimp only at hf
      refine Run.exit _ rfl ?_
      refine Run.seq ?_
      refine Run.region ?_
      refine Ops.ex (Ex.move rfl) rfl rfl rfl ?_
      obtain ⟨y162, hy162, hf⟩ := bnd hf
      refine Ops.call rfl rfl Try.func37 (by kernel_rfl) (by kernel_rfl) rfl (go_pack_Writer_Bytes.walk (p0 := (⟨l156⟩ : packWriter)) (hst := (St.up (St.up (St.up hst157 1 rfl) 2 rfl) 2 rfl)) (f1 := f156) (hf := hy162)) ?_
      rintro _ w162 ⟨z162, A163, c163, rfl, hz162, f163, hst162⟩
      refine ⟨_, rfl, ?_⟩
      replace f2 := f2.mono hz162; replace f156 := f156.mono hz162
      replace hy157_0 := hy157_0.trans hz162
      replace hy157_1 := hy157_1.trans hz162
      replace hz157 := hz157.trans hz162
      refine Ops.ex (Ex.assign rfl) rfl rfl rfl ?_
      refine Ops.nil ?_
      obtain rfl := Option.some.inj hf
      exact Run.retV [.slice A163 y162.length c163] rfl ⟨rfl, trivial⟩ ⟨z162, A163, c163, rfl, hy157_0, f163, (St.forget (St.forget hst162 2) 1)⟩
def go_edits_Read.j1 (y7 : Int × packReader) (l1235 : List apiRef) (l1236 : List Str) (b1237 : Bool) : Option (editsEdit × Bool) :=
  if b1237 then (some ((⟨[], [], 0⟩ : editsEdit), false)) else (some ((⟨l1235, l1236, y7.1⟩ : editsEdit), true))
def go_edits_Read.j2 (y7 : Int × packReader) (l1269 : List apiRef) (l1270 : List Str) (b1271 : Bool) : Option (editsEdit × Bool) :=
  if b1271 then (some ((⟨[], [], 0⟩ : editsEdit), false)) else (some ((⟨l1269, l1270, y7.1⟩ : editsEdit), true))
def go_edits_Read.b2 (p0 : List UInt8) (y7 : Int × packReader) (l1009 : List apiRef) : (Int × List UInt8 × Bool × List Str) → (Int × List UInt8 × Bool × List Str → Option (editsEdit × Bool)) → Option (editsEdit × Bool) :=
  fun (x1202, l1203, b1204, l1205) nxb1043 => if 0 < x1202 then ((go_pack_Reader_Bad (⟨l1203, b1204⟩ : packReader)).bind fun y1209 => if y1209 then ((go_pack_Reader_Done (⟨l1203, b1204⟩ : packReader)).bind fun y1239 => if y1239 then ((go_edits_Bytes (⟨l1009, l1205, y7.1⟩ : editsEdit)).bind fun y1243 => go_edits_Read.j1 y7 l1009 l1205 (!(decide (y1243 = p0)))) else (go_edits_Read.j1 y7 l1009 l1205 true)) else ((go_pack_Reader_Text (⟨l1203, b1204⟩ : packReader)).bind fun y1213 => (apB 16 l1205 [y1213.1]).bind fun l1218 => nxb1043 (wr (x1202 - 1), y1213.2.b_, y1213.2.bad_, l1218))) else ((go_pack_Reader_Done (⟨l1203, b1204⟩ : packReader)).bind fun y1273 => if y1273 then ((go_edits_Bytes (⟨l1009, l1205, y7.1⟩ : editsEdit)).bind fun y1277 => go_edits_Read.j2 y7 l1009 l1205 (!(decide (y1277 = p0)))) else (go_edits_Read.j2 y7 l1009 l1205 true))
def go_edits_Read.j3 (y7 : Int × packReader) (l1484 : List apiRef) (l1485 : List Str) (b1486 : Bool) : Option (editsEdit × Bool) :=
  if b1486 then (some ((⟨[], [], 0⟩ : editsEdit), false)) else (some ((⟨l1484, l1485, y7.1⟩ : editsEdit), true))
def go_edits_Read.j4 (y7 : Int × packReader) (l1518 : List apiRef) (l1519 : List Str) (b1520 : Bool) : Option (editsEdit × Bool) :=
  if b1520 then (some ((⟨[], [], 0⟩ : editsEdit), false)) else (some ((⟨l1518, l1519, y7.1⟩ : editsEdit), true))
def go_edits_Read.b3 (p0 : List UInt8) (y7 : Int × packReader) (l1009 : List apiRef) : (Int × List UInt8 × Bool × List Str) → (Int × List UInt8 × Bool × List Str → Option (editsEdit × Bool)) → Option (editsEdit × Bool) :=
  fun (x1451, l1452, b1453, l1454) nxb1292 => if 0 < x1451 then ((go_pack_Reader_Bad (⟨l1452, b1453⟩ : packReader)).bind fun y1458 => if y1458 then ((go_pack_Reader_Done (⟨l1452, b1453⟩ : packReader)).bind fun y1488 => if y1488 then ((go_edits_Bytes (⟨l1009, l1454, y7.1⟩ : editsEdit)).bind fun y1492 => go_edits_Read.j3 y7 l1009 l1454 (!(decide (y1492 = p0)))) else (go_edits_Read.j3 y7 l1009 l1454 true)) else ((go_pack_Reader_Text (⟨l1452, b1453⟩ : packReader)).bind fun y1462 => (apB 16 l1454 [y1462.1]).bind fun l1467 => nxb1292 (wr (x1451 - 1), y1462.2.b_, y1462.2.bad_, l1467))) else ((go_pack_Reader_Done (⟨l1452, b1453⟩ : packReader)).bind fun y1522 => if y1522 then ((go_edits_Bytes (⟨l1009, l1454, y7.1⟩ : editsEdit)).bind fun y1526 => go_edits_Read.j4 y7 l1009 l1454 (!(decide (y1526 = p0)))) else (go_edits_Read.j4 y7 l1009 l1454 true))
def go_edits_Read.b1 (p0 : List UInt8) (y7 : Int × packReader) : (Int × List UInt8 × Bool × List apiRef) → (Int × List UInt8 × Bool × List apiRef → Option (editsEdit × Bool)) → Option (editsEdit × Bool) :=
  fun (x1006, l1007, b1008, l1009) nxb17 => if 0 < x1006 then ((go_pack_Reader_Bad (⟨l1007, b1008⟩ : packReader)).bind fun y1013 => if y1013 then ((go_pack_Reader_Num (⟨l1007, b1008⟩ : packReader)).bind fun y1039 => loopF (go_edits_Read.b2 p0 y7 l1009) fuel (y1039.1, y1039.2.b_, y1039.2.bad_, [])) else ((go_pack_Reader_Text (⟨l1007, b1008⟩ : packReader)).bind fun y1015 => (go_pack_Reader_Byte y1015.2).bind fun y1021 => (go_pack_Reader_Num y1021.2).bind fun y1026 => (go_pack_Reader_Num y1026.2).bind fun y1031 => (apB 40 l1009 [(⟨y1015.1, (y1021.1.toNat : Int), y1026.1, y1031.1⟩ : apiRef)]).bind fun l1037 => nxb17 (wr (x1006 - 1), y1031.2.b_, y1031.2.bad_, l1037))) else ((go_pack_Reader_Num (⟨l1007, b1008⟩ : packReader)).bind fun y1288 => loopF (go_edits_Read.b3 p0 y7 l1009) fuel (y1288.1, y1288.2.b_, y1288.2.bad_, []))
def go_edits_Read (p0 : List UInt8) : Option (editsEdit × Bool) :=
  (go_pack_Of p0).bind fun y3 => (go_pack_Reader_Num y3).bind fun y7 => (go_pack_Reader_Num y7.2).bind fun y13 => loopF (go_edits_Read.b1 p0 y7) fuel (y13.1, y13.2.b_, y13.2.bad_, [])
set_option maxRecDepth 100000 in
set_option maxHeartbeats 4000000 in
theorem go_edits_Read.walk {w0 w : World} {X : List Res} {z0 : Zp} {p0 : List UInt8} {A1 : Option Addr} {c1 : Nat} {r : editsEdit × Bool} (hst : Ht w0 (frz z0 :: X) w) (f1 : Sl tU8 z0 A1 c1 p0) (hf : go_edits_Read p0 = some r) :
    Calls Try.prog 19 #[.slice A1 p0.length c1] w fun e w' => ∃ (z' : Zp) (A9001 : Option Addr) (c9001 : Nat) (A9002 : Option Addr) (c9002 : Nat), e = .returned (.tuple #[.agg #[.slice A9001 r.1.Add.length c9001, .slice A9002 r.1.Drop.length c9002, vi r.1.Floor], vb r.2]) ∧ Le z0 z' ∧ Sl tapiRef z' A9001 c9001 r.1.Add ∧ Sl tS z' A9002 c9002 r.1.Drop ∧ Ht w0 (frz z' :: X) w' := by
  refine calls_np Try.func19 rfl rfl ?_
  have hle0 := Le.refl z0
  unfold go_edits_Read at hf
  refine Run.seq ?_
  refine Run.region ?_
  refine Ops.allocF [.slice none 0 0, .slice none 0 0, vi 0] hst zr29 rfl rfl (fun g2 w2 hst2 => ?_)
  refine Ops.ex (Ex.assign rfl) rfl rfl rfl ?_
  refine Ops.nil ?_
  refine Run.seq ?_
  refine Run.region ?_
  refine Ops.ex (Ex.move rfl) rfl rfl rfl ?_
  obtain ⟨y3, hy3, hf⟩ := bnd hf
  refine Ops.call rfl rfl Try.func38 (by kernel_rfl) (by kernel_rfl) rfl (go_pack_Of.walk (p0 := p0) (hst := hst2) (f1 := f1) (hf := hy3)) ?_
  rintro _ w3 ⟨z3, g4, A5, c5, rfl, hz3, f5, hst3⟩
  refine ⟨_, rfl, ?_⟩
  replace f1 := f1.mono hz3
  replace hle0 := hle0.trans hz3
  refine Ops.ex (Ex.assign rfl) rfl rfl rfl ?_
  refine Ops.nil ?_
  refine Run.seq ?_
  refine Run.region ?_
  refine Ops.ex (Ex.move rfl) rfl rfl rfl ?_
  obtain ⟨y7, hy7, hf⟩ := bnd hf
  refine Ops.call rfl rfl Try.func39 (by kernel_rfl) (by kernel_rfl) rfl (go_pack_Reader_Num.walk (p0 := y3) (hst := hst3) (f1 := f5) (hf := hy7)) ?_
  rintro _ w7 ⟨z7, A9, c9, rfl, hz7, f9, hst7⟩
  refine ⟨_, rfl, ?_⟩
  replace f1 := f1.mono hz7
  replace hle0 := hle0.trans hz7
  refine Ops.ex (Ex.build [.slice none 0 0, .slice none 0 0, vi y7.1] rfl Try.underlying29 zr29 (pl29 Try.underlying29) (by kernel_rfl)) rfl rfl rfl ?_
  refine Ops.allocF [.slice none 0 0, .slice none 0 0, vi 0] hst7 zr29 rfl rfl (fun g11 w11 hst11 => ?_)
  refine Ops.store 1 [.slice none 0 0, .slice none 0 0, vi y7.1] hst11 rfl rfl rfl rfl sz29 rfl (by simp [Value.oneCell']) (by simp) (fun w12 hst12 => ?_)
  refine Ops.nil ?_
  refine Run.seq ?_
  refine Run.seq ?_
  refine Run.region ?_
  refine Ops.ex (Ex.move rfl) rfl rfl rfl ?_
  obtain ⟨y13, hy13, hf⟩ := bnd hf
  refine Ops.call rfl rfl Try.func39 (by kernel_rfl) (by kernel_rfl) rfl (go_pack_Reader_Num.walk (p0 := y7.2) (hst := (St.up (St.up (St.up (St.up hst12 3 rfl) 2 rfl) 3 rfl) 3 rfl)) (f1 := f9) (hf := hy13)) ?_
  rintro _ w13 ⟨z13, A15, c15, rfl, hz13, f15, hst13⟩
  refine ⟨_, rfl, ?_⟩
  replace f1 := f1.mono hz13
  replace hle0 := hle0.trans hz13
  refine Ops.ex (Ex.assign rfl) rfl rfl rfl ?_
  refine Ops.nil ?_
  refine Run.block ?_
  have hm18 := Le.refl z13
  have hst1010 := hst13.row0 24 4
  refine Run.sub (e' := [(0, .slice A1 p0.length c1), (2, .pointer (some ⟨g2, 0, none⟩)), (4, .pointer (some ⟨g4, 0, none⟩)), (5, .pointer (some ⟨g11, 0, none⟩)), (6, vi y13.1)]) (subB_spec ⟨rfl, rfl, rfl, rfl, rfl, trivial⟩) ?_
  refine Run.loop (fun mb17 => (fun e' w' => ∃ (x1006 : Int) (l1007 : List UInt8) (b1008 : Bool) (l1009 : List apiRef) (A1007 : Option Addr) (c1007 : Nat) (A1009 : Option Addr) (c1009 : Nat) (d1009 : List Value) (z1005 : Zp), loopF (go_edits_Read.b1 p0 y7) mb17 (x1006, l1007, b1008, l1009) = some r ∧ e' = [(0, .slice A1 p0.length c1), (2, .pointer (some ⟨g2, 0, none⟩)), (4, .pointer (some ⟨g4, 0, none⟩)), (5, .pointer (some ⟨g11, 0, none⟩)), (6, vi x1006)] ∧ Le z13 z1005 ∧ Le z0 z1005 ∧ Sl tU8 z1005 A1007 c1007 l1007 ∧ Cs tapiRef z1005 d1009 l1009 ∧ Ht w0 (frz z1005 :: (orow 24 4 (.slice A1009 l1009.length c1009) l1009.length d1009) :: (blk g4 [.slice A1007 l1007.length c1007, vb b1008] 97) :: (blk g11 [.slice A1009 l1009.length c1009, .slice none 0 0, vi y7.1] 29) :: (blk g2 [.slice none 0 0, .slice none 0 0, vi 0] 29) :: X) w')) fuel ⟨y13.1, y13.2.b_, y13.2.bad_, [], A15, c15, none, 0, [], z13, hf, rfl, hm18, hle0, f15, (Cs.nil _ _), hst1010⟩ ?_
  rintro mb17 e' w1012 ⟨x1006, l1007, b1008, l1009, A1007, c1007, A1009, c1009, d1009, z1005, hf, rfl, hz1012, hy1012_0, f1007, f1009, hst1012⟩
  replace f1 := f1.mono hz1012
  obtain ⟨mb17', nxb17, rfl, hnxb17, hf⟩ := loopF_in hf
  unfold go_edits_Read.b1 at hf
  try dsimp only at hf
  refine Run.seq ?_
  refine Run.seq ?_
  refine Run.region ?_
  refine Ops.ex (Ex.move rfl) rfl rfl rfl ?_
  refine Ops.ex (Ex.gtr rfl rfl) rfl rfl rfl ?_
  refine Ops.ex (Ex.move rfl) rfl rfl rfl ?_
  refine Ops.case 18 rfl (fun hc => ?_) (fun hc => ?_)
  · replace hf := ifT (dec_T hc) hf
    refine Ops.on rfl ?_
    refine Ops.ex (Ex.move rfl) rfl rfl rfl ?_
    refine Ops.on rfl ?_
    obtain ⟨y1013, hy1013, hf⟩ := bnd hf
    refine Ops.call rfl rfl Try.func40 (by kernel_rfl) (by kernel_rfl) rfl (go_pack_Reader_Bad.walk (p0 := (⟨l1007, b1008⟩ : packReader)) (hst := (St.up (St.up (St.up (St.up (St.up hst1012 4 rfl) 4 rfl) 3 rfl) 4 rfl) 4 rfl)) (f1 := f1007) (hf := hy1013)) ?_
    rintro _ w1013 ⟨z1013, rfl, hz1013, hst1013⟩
    refine ⟨_, rfl, ?_⟩
    replace f1 := f1.mono hz1013; replace f1007 := f1007.mono hz1013; replace f1009 := f1009.mono hz1013
    replace hy1012_0 := hy1012_0.trans hz1013
    replace hz1012 := hz1012.trans hz1013
    refine Ops.on rfl ?_
    refine Ops.ex (Ex.not rfl) rfl rfl rfl ?_
    refine Ops.ex (Ex.pickT rfl rfl) rfl rfl rfl ?_
    refine Ops.nil ?_
    refine Run.cond rfl (fun hc => ?_) (fun hc => ?_)
    · replace hf := ifFb (bn_T hc) hf
      refine Run.skip ?_
      refine Run.seq ?_
      refine Run.block ?_
      refine Run.seq ?_
      refine Run.region ?_
      refine Ops.ex (Ex.move rfl) rfl rfl rfl ?_
      obtain ⟨y1015, hy1015, hf⟩ := bnd hf
      refine Ops.call rfl rfl Try.func41 (by kernel_rfl) (by kernel_rfl) rfl (go_pack_Reader_Text.walk (p0 := (⟨l1007, b1008⟩ : packReader)) (hst := hst1013) (f1 := f1007) (hf := hy1015)) ?_
      rintro _ w1015 ⟨z1015, A1017, c1017, rfl, hz1015, f1017, hst1015⟩
      refine ⟨_, rfl, ?_⟩
      replace f1 := f1.mono hz1015; replace f1009 := f1009.mono hz1015
      replace hy1012_0 := hy1012_0.trans hz1015
      replace hz1012 := hz1012.trans hz1015
      refine Ops.ex (Ex.build [vs y1015.1, vi 0, vi 0, vi 0] rfl Try.underlying24 zr24 (pl24 Try.underlying24) (by kernel_rfl)) rfl rfl rfl ?_
      refine Ops.allocF [vs [], vi 0, vi 0, vi 0] hst1015 zr24 rfl rfl (fun g1019 w1019 hst1019 => ?_)
      refine Ops.store 1 [vs y1015.1, vi 0, vi 0, vi 0] hst1019 rfl rfl rfl rfl sz24 rfl (by simp [Value.oneCell']) (by simp) (fun w1020 hst1020 => ?_)
      refine Ops.nil ?_
      refine Run.seq ?_
      refine Run.region ?_
      refine Ops.ex (Ex.move rfl) rfl rfl rfl ?_
      obtain ⟨y1021, hy1021, hf⟩ := bnd hf
      refine Ops.call rfl rfl Try.func42 (by kernel_rfl) (by kernel_rfl) rfl (go_pack_Reader_Byte.walk (p0 := y1015.2) (hst := (St.up (St.up (St.up (St.up (St.up (St.up hst1020 5 rfl) 5 rfl) 5 rfl) 4 rfl) 5 rfl) 5 rfl)) (f1 := f1017) (hf := hy1021)) ?_
      rintro _ w1021 ⟨z1021, A1023, c1023, rfl, hz1021, f1023, hst1021⟩
      refine ⟨_, rfl, ?_⟩
      replace f1 := f1.mono hz1021; replace f1009 := f1009.mono hz1021
      replace hy1012_0 := hy1012_0.trans hz1021
      replace hz1012 := hz1012.trans hz1021
      refine Ops.ex (Ex.cu8 rfl Try.underlying5 Try.underlying22) rfl rfl rfl ?_
      refine Ops.ex (Ex.fieldAddr rfl Try.underlying24 rfl sz22) rfl rfl rfl ?_
      refine Ops.store 2 [vi (y1021.1.toNat : Int)] hst1021 rfl rfl rfl rfl sz22 rfl (by simp [Value.oneCell']) (by simp) (fun w1025 hst1025 => ?_)
      refine Ops.nil ?_
      refine Run.seq ?_
      refine Run.region ?_
      refine Ops.ex (Ex.move rfl) rfl rfl rfl ?_
      obtain ⟨y1026, hy1026, hf⟩ := bnd hf
      refine Ops.call rfl rfl Try.func39 (by kernel_rfl) (by kernel_rfl) rfl (go_pack_Reader_Num.walk (p0 := y1021.2) (hst := hst1025) (f1 := f1023) (hf := hy1026)) ?_
      rintro _ w1026 ⟨z1026, A1028, c1028, rfl, hz1026, f1028, hst1026⟩
      refine ⟨_, rfl, ?_⟩
      replace f1 := f1.mono hz1026; replace f1009 := f1009.mono hz1026
      replace hy1012_0 := hy1012_0.trans hz1026
      replace hz1012 := hz1012.trans hz1026
      refine Ops.ex (Ex.fieldAddr rfl Try.underlying24 rfl sz3) rfl rfl rfl ?_
      refine Ops.store 2 [vi y1026.1] hst1026 rfl rfl rfl rfl sz3 rfl (by simp [Value.oneCell']) (by simp) (fun w1030 hst1030 => ?_)
      refine Ops.nil ?_
      refine Run.seq ?_
      refine Run.region ?_
      refine Ops.ex (Ex.move rfl) rfl rfl rfl ?_
      obtain ⟨y1031, hy1031, hf⟩ := bnd hf
      refine Ops.call rfl rfl Try.func39 (by kernel_rfl) (by kernel_rfl) rfl (go_pack_Reader_Num.walk (p0 := y1026.2) (hst := hst1030) (f1 := f1028) (hf := hy1031)) ?_
      rintro _ w1031 ⟨z1031, A1033, c1033, rfl, hz1031, f1033, hst1031⟩
      refine ⟨_, rfl, ?_⟩
      replace f1 := f1.mono hz1031; replace f1009 := f1009.mono hz1031
      replace hy1012_0 := hy1012_0.trans hz1031
      replace hz1012 := hz1012.trans hz1031
      refine Ops.ex (Ex.fieldAddr rfl Try.underlying24 rfl sz3) rfl rfl rfl ?_
      refine Ops.store 2 [vi y1031.1] hst1031 rfl rfl rfl rfl sz3 rfl (by simp [Value.oneCell']) (by simp) (fun w1035 hst1035 => ?_)
      refine Ops.nil ?_
      refine Run.region ?_
      refine Ops.ex (Ex.fieldAddr rfl Try.underlying29 rfl sz26) rfl rfl rfl ?_
      refine Ops.load rfl Try.underlying26 rfl (hst1035.cell (i := 4) rfl rfl) rfl ?_
      refine Ops.loadAgg _ rfl Try.underlying24 rfl sz24 rfl (hst1035.cells (i := 2) rfl 0 4) rfl ?_
      refine Ops.sliceF [vs y1015.1, vi (y1021.1.toNat : Int), vi y1026.1, vi y1031.1] hst1035 rfl Try.underlying26 sz24 zr24 rfl rfl (by kernel_rfl) rfl (by simp [Value.oneCell']) rfl (fun A1036 w1036 hst1036 => ?_)
      have f1036 : Cs tapiRef z1031 [vs y1015.1, vi (y1021.1.toNat : Int), vi y1026.1, vi y1031.1] [(⟨y1015.1, (y1021.1.toNat : Int), y1026.1, y1031.1⟩ : apiRef)] := (Cs.cons (c := [vs y1015.1, vi (y1021.1.toNat : Int), vi y1026.1, vi y1031.1]) rfl (Cs.nil _ _))
      obtain ⟨l1037, hy1037, hf⟩ := bnd hf
      refine Ops.app 4 hst1036 rfl f1009 rfl (own_slh f1036 rfl (hst1036.get (i := 1) rfl)) rfl hy1037 rfl rfl rfl rfl Try.underlying26 inf24 rfl (by decide) (by decide) rfl (fun A1037 c1037 d1037 w1037 f1037 hst1037 => ?_)
      refine Ops.ex (Ex.fieldAddr rfl Try.underlying29 rfl sz26) rfl rfl rfl ?_
      refine Ops.store 5 [.slice A1037 l1037.length c1037] hst1037 rfl rfl rfl rfl sz26 rfl (by simp [Value.oneCell']) (by simp) (fun w1038 hst1038 => ?_)
      refine Ops.nil ?_
      refine Run.endBlk ?_
      refine Run.region ?_
      refine Ops.ex (Ex.move rfl) rfl rfl rfl ?_
      refine Ops.ex (Ex.sub rfl rfl) rfl rfl rfl ?_
      refine Ops.ex (Ex.assign rfl) rfl rfl rfl ?_
      refine Ops.nil ?_
      exact Run.sub (by exact subB_spec ⟨rfl, rfl, rfl, rfl, rfl, trivial⟩) (Run.stop ⟨mb17', Nat.lt_succ_self _, wr (x1006 - 1), y1031.2.b_, y1031.2.bad_, l1037, A1033, c1033, A1037, c1037, d1037, z1031, (hnxb17 _).symm.trans hf, rfl, hz1012, hy1012_0, f1033, f1037, (St.up (St.up (St.up (St.up (St.up (St.forget (St.forget hst1038 3) 1) 4 rfl) 4 rfl) 3 rfl) 4 rfl) 4 rfl)⟩)
    · replace hf := ifTb (bn_F hc) hf
      refine Run.exit _ rfl ?_
      refine Run.seq ?_
      refine Run.seq ?_
      refine Run.region ?_
      refine Ops.ex (Ex.move rfl) rfl rfl rfl ?_
      obtain ⟨y1039, hy1039, hf⟩ := bnd hf
      refine Ops.call rfl rfl Try.func39 (by kernel_rfl) (by kernel_rfl) rfl (go_pack_Reader_Num.walk (p0 := (⟨l1007, b1008⟩ : packReader)) (hst := hst1013) (f1 := f1007) (hf := hy1039)) ?_
      rintro _ w1039 ⟨z1039, A1041, c1041, rfl, hz1039, f1041, hst1039⟩
      refine ⟨_, rfl, ?_⟩
      replace f1 := f1.mono hz1039; replace f1009 := f1009.mono hz1039
      replace hy1012_0 := hy1012_0.trans hz1039
      replace hz1012 := hz1012.trans hz1039
      refine Ops.ex (Ex.assign rfl) rfl rfl rfl ?_
      refine Ops.nil ?_
      refine Run.block ?_
      have hm1044 := Le.refl z1039
      have hst1206 := hst1039.row0 9 1
      refine Run.sub (e' := [(0, .slice A1 p0.length c1), (2, .pointer (some ⟨g2, 0, none⟩)), (4, .pointer (some ⟨g4, 0, none⟩)), (5, .pointer (some ⟨g11, 0, none⟩)), (8, vi y1039.1)]) (subB_spec ⟨rfl, rfl, rfl, rfl, rfl, trivial⟩) ?_
      refine Run.loop (fun mb1043 => (fun e' w' => ∃ (x1202 : Int) (l1203 : List UInt8) (b1204 : Bool) (l1205 : List Str) (A1203 : Option Addr) (c1203 : Nat) (A1205 : Option Addr) (c1205 : Nat) (d1205 : List Value) (z1201 : Zp), loopF (go_edits_Read.b2 p0 y7 l1009) mb1043 (x1202, l1203, b1204, l1205) = some r ∧ e' = [(0, .slice A1 p0.length c1), (2, .pointer (some ⟨g2, 0, none⟩)), (4, .pointer (some ⟨g4, 0, none⟩)), (5, .pointer (some ⟨g11, 0, none⟩)), (8, vi x1202)] ∧ Le z1039 z1201 ∧ Le z0 z1201 ∧ Le z13 z1201 ∧ Sl tU8 z1201 A1203 c1203 l1203 ∧ Cs tS z1201 d1205 l1205 ∧ Ht w0 (frz z1201 :: (orow 9 1 (.slice A1205 l1205.length c1205) l1205.length d1205) :: (blk g4 [.slice A1203 l1203.length c1203, vb b1204] 97) :: (orow 24 4 (.slice A1009 l1009.length c1009) l1009.length d1009) :: (blk g11 [.slice A1009 l1009.length c1009, .slice A1205 l1205.length c1205, vi y7.1] 29) :: (blk g2 [.slice none 0 0, .slice none 0 0, vi 0] 29) :: X) w')) fuel ⟨y1039.1, y1039.2.b_, y1039.2.bad_, [], A1041, c1041, none, 0, [], z1039, hf, rfl, hm1044, hy1012_0, hz1012, f1041, (Cs.nil _ _), hst1206⟩ ?_
      rintro mb1043 e' w1208 ⟨x1202, l1203, b1204, l1205, A1203, c1203, A1205, c1205, d1205, z1201, hf, rfl, hz1208, hy1208_0, hy1208_1, f1203, f1205, hst1208⟩
      replace f1 := f1.mono hz1208; replace f1009 := f1009.mono hz1208
      obtain ⟨mb1043', nxb1043, rfl, hnxb1043, hf⟩ := loopF_in hf
      unfold go_edits_Read.b2 at hf
      try dsimp only at hf
      refine Run.seq ?_
      refine Run.seq ?_
      refine Run.region ?_
      refine Ops.ex (Ex.move rfl) rfl rfl rfl ?_
      refine Ops.ex (Ex.gtr rfl rfl) rfl rfl rfl ?_
      refine Ops.ex (Ex.move rfl) rfl rfl rfl ?_
      refine Ops.case 48 rfl (fun hc => ?_) (fun hc => ?_)
      · replace hf := ifT (dec_T hc) hf
        refine Ops.on rfl ?_
        refine Ops.ex (Ex.move rfl) rfl rfl rfl ?_
        refine Ops.on rfl ?_
        obtain ⟨y1209, hy1209, hf⟩ := bnd hf
        refine Ops.call rfl rfl Try.func40 (by kernel_rfl) (by kernel_rfl) rfl (go_pack_Reader_Bad.walk (p0 := (⟨l1203, b1204⟩ : packReader)) (hst := (St.up (St.up (St.up (St.up (St.up (St.up hst1208 5 rfl) 5 rfl) 5 rfl) 4 rfl) 5 rfl) 5 rfl)) (f1 := f1203) (hf := hy1209)) ?_
        rintro _ w1209 ⟨z1209, rfl, hz1209, hst1209⟩
        refine ⟨_, rfl, ?_⟩
        replace f1 := f1.mono hz1209; replace f1203 := f1203.mono hz1209; replace f1205 := f1205.mono hz1209; replace f1009 := f1009.mono hz1209
        replace hy1208_0 := hy1208_0.trans hz1209
        replace hy1208_1 := hy1208_1.trans hz1209
        replace hz1208 := hz1208.trans hz1209
        refine Ops.on rfl ?_
        refine Ops.ex (Ex.not rfl) rfl rfl rfl ?_
        refine Ops.ex (Ex.pickT rfl rfl) rfl rfl rfl ?_
        refine Ops.nil ?_
        refine Run.cond rfl (fun hc => ?_) (fun hc => ?_)
        · replace hf := ifFb (bn_T hc) hf
          refine Run.skip ?_
          refine Run.seq ?_
          refine Run.block ?_
          have hm1212 := Le.refl z1209
          refine Run.drawH [([], fun w => ∃ ζ Y, Le z1209 ζ ∧ Ht w0 (frz ζ :: (orow 24 4 (.slice A1009 l1009.length c1009) l1009.length d1009) :: (blk g2 [.slice none 0 0, .slice none 0 0, vi 0] 29) :: Y) w), ([3, 4, 5, 7], fun w => ∃ ζ Y, Le z1209 ζ ∧ Ht w0 (frz ζ :: (blk g4 [.slice A1203 l1203.length c1203, vb b1204] 97) :: Y) w), ([5, 7], fun w => ∃ ζ Y, Le z1209 ζ ∧ Ht w0 (frz ζ :: (orow 9 1 (.slice A1205 l1205.length c1205) l1205.length d1205) :: Y) w), ([7], fun w => ∃ ζ Y, Le z1209 ζ ∧ Ht w0 (frz ζ :: (blk g11 [.slice A1009 l1009.length c1009, .slice A1205 l1205.length c1205, vi y7.1] 29) :: Y) w)] (by kernel_rfl) hst1209 (fun w1211 hst1211 => ?_)
          have hS0 := (⟨_, _, (Le.refl _), (St.up (St.up (St.up hst1211 5 rfl) 4 rfl) 2 rfl)⟩ : (fun w => ∃ ζ Y, Le z1209 ζ ∧ Ht w0 (frz ζ :: (orow 24 4 (.slice A1009 l1009.length c1009) l1009.length d1009) :: (blk g2 [.slice none 0 0, .slice none 0 0, vi 0] 29) :: Y) w) _)
          have hS1 := (⟨_, _, (Le.refl _), (St.up (St.up hst1211 1 rfl) 1 rfl)⟩ : (fun w => ∃ ζ Y, Le z1209 ζ ∧ Ht w0 (frz ζ :: (blk g4 [.slice A1203 l1203.length c1203, vb b1204] 97) :: Y) w) _)
          have hS2 := (⟨_, _, (Le.refl _), (St.up (St.up hst1211 2 rfl) 1 rfl)⟩ : (fun w => ∃ ζ Y, Le z1209 ζ ∧ Ht w0 (frz ζ :: (orow 9 1 (.slice A1205 l1205.length c1205) l1205.length d1205) :: Y) w) _)
          have hS3 := (⟨_, _, (Le.refl _), (St.up (St.up hst1211 4 rfl) 1 rfl)⟩ : (fun w => ∃ ζ Y, Le z1209 ζ ∧ Ht w0 (frz ζ :: (blk g11 [.slice A1009 l1009.length c1009, .slice A1205 l1205.length c1205, vi y7.1] 29) :: Y) w) _)
          refine Any.takeE 0 rfl rfl rfl rfl (by kernel_rfl) (fun _ _ _ _ _ h => h) ((Ex.fieldAddr rfl Try.underlying29 rfl sz27).s) ?_
          refine Any.take 3 1 rfl rfl rfl rfl rfl (by kernel_rfl) (fun _ _ _ _ _ h => h) (ExS.load rfl Try.underlying27 rfl (fun w hS => by obtain ⟨_, _, _, hs⟩ := hS; exact hs.cell (i := 1) rfl rfl)) hS3 ?_
          refine Any.takeE 2 rfl rfl rfl rfl (by kernel_rfl) (fun _ _ _ _ _ h => h) ((Ex.move rfl).s) ?_
          obtain ⟨y1213, hy1213, hf⟩ := bnd hf
          refine Any.one 3 (by kernel_rfl) rfl rfl (One.of_ops rfl ?_)
          refine Ops.call rfl rfl Try.func41 (by kernel_rfl) (by kernel_rfl) rfl (go_pack_Reader_Text.walk (p0 := (⟨l1203, b1204⟩ : packReader)) (hst := hst1211) (f1 := f1203) (hf := hy1213)) ?_
          rintro _ w1213 ⟨z1213, A1215, c1215, rfl, hz1213, f1215, hst1213⟩
          refine ⟨_, rfl, Ops.stop ?_⟩
          replace f1 := f1.mono hz1213; replace f1205 := f1205.mono hz1213; replace f1009 := f1009.mono hz1213
          replace hy1208_0 := hy1208_0.trans hz1213
          replace hy1208_1 := hy1208_1.trans hz1213
          replace hz1208 := hz1208.trans hz1213
          replace hm1212 := hm1212.trans hz1213
          have hS0 := (⟨_, _, hm1212, (St.up (St.up (St.up hst1213 5 rfl) 4 rfl) 2 rfl)⟩ : (fun w => ∃ ζ Y, Le z1209 ζ ∧ Ht w0 (frz ζ :: (orow 24 4 (.slice A1009 l1009.length c1009) l1009.length d1009) :: (blk g2 [.slice none 0 0, .slice none 0 0, vi 0] 29) :: Y) w) _)
          have hS2 := (⟨_, _, hm1212, (St.up (St.up hst1213 2 rfl) 1 rfl)⟩ : (fun w => ∃ ζ Y, Le z1209 ζ ∧ Ht w0 (frz ζ :: (orow 9 1 (.slice A1205 l1205.length c1205) l1205.length d1205) :: Y) w) _)
          have hS3 := (⟨_, _, hm1212, (St.up (St.up hst1213 4 rfl) 1 rfl)⟩ : (fun w => ∃ ζ Y, Le z1209 ζ ∧ Ht w0 (frz ζ :: (blk g11 [.slice A1009 l1009.length c1009, .slice A1205 l1205.length c1205, vi y7.1] 29) :: Y) w) _)
          refine ⟨⟨.inr (fun _ => hS0), .inl (by decide), .inr (fun _ => hS2), .inr (fun _ => hS3), trivial⟩, ?_⟩
          refine Any.one 4 (by kernel_rfl) rfl rfl (One.of_ops rfl ?_)
          refine Ops.sliceF [vs y1213.1] hst1213 rfl Try.underlying27 sz9 zr9 rfl rfl (by kernel_rfl) rfl (by simp [Value.oneCell']) rfl (fun A1217 w1217 hst1217 => Ops.stop ?_)
          have f1217 : Cs tS z1213 [vs y1213.1] [y1213.1] := (Cs.cons (c := [vs y1213.1]) rfl (Cs.nil _ _))
          have hS0 := (⟨_, _, hm1212, (St.up (St.up (St.up hst1217 6 rfl) 5 rfl) 2 rfl)⟩ : (fun w => ∃ ζ Y, Le z1209 ζ ∧ Ht w0 (frz ζ :: (orow 24 4 (.slice A1009 l1009.length c1009) l1009.length d1009) :: (blk g2 [.slice none 0 0, .slice none 0 0, vi 0] 29) :: Y) w) _)
          have hS2 := (⟨_, _, hm1212, (St.up (St.up hst1217 3 rfl) 1 rfl)⟩ : (fun w => ∃ ζ Y, Le z1209 ζ ∧ Ht w0 (frz ζ :: (orow 9 1 (.slice A1205 l1205.length c1205) l1205.length d1205) :: Y) w) _)
          have hS3 := (⟨_, _, hm1212, (St.up (St.up hst1217 5 rfl) 1 rfl)⟩ : (fun w => ∃ ζ Y, Le z1209 ζ ∧ Ht w0 (frz ζ :: (blk g11 [.slice A1009 l1009.length c1009, .slice A1205 l1205.length c1205, vi y7.1] 29) :: Y) w) _)
          refine ⟨⟨.inr (fun _ => hS0), .inl (by decide), .inr (fun _ => hS2), .inr (fun _ => hS3), trivial⟩, ?_⟩
          obtain ⟨l1218, hy1218, hf⟩ := bnd hf
          refine Any.one 5 (by kernel_rfl) rfl rfl (One.of_ops rfl ?_)
          refine Ops.app 3 hst1217 rfl f1205 rfl (own_slh f1217 rfl (hst1217.get (i := 1) rfl)) rfl hy1218 rfl rfl rfl rfl Try.underlying27 inf9 rfl (by decide) (by decide) rfl (fun A1218 c1218 d1218 w1218 f1218 hst1218 => Ops.stop ?_)
          have hS0 := (⟨_, _, hm1212, (St.up (St.up (St.up hst1218 6 rfl) 5 rfl) 2 rfl)⟩ : (fun w => ∃ ζ Y, Le z1209 ζ ∧ Ht w0 (frz ζ :: (orow 24 4 (.slice A1009 l1009.length c1009) l1009.length d1009) :: (blk g2 [.slice none 0 0, .slice none 0 0, vi 0] 29) :: Y) w) _)
          have hS3 := (⟨_, _, hm1212, (St.up (St.up hst1218 5 rfl) 1 rfl)⟩ : (fun w => ∃ ζ Y, Le z1209 ζ ∧ Ht w0 (frz ζ :: (blk g11 [.slice A1009 l1009.length c1009, .slice A1205 l1205.length c1205, vi y7.1] 29) :: Y) w) _)
          refine ⟨⟨.inr (fun _ => hS0), .inl (by decide), .inl (by decide), .inr (fun _ => hS3), trivial⟩, ?_⟩
          refine Any.takeE 6 rfl rfl rfl rfl (by kernel_rfl) (fun _ _ _ _ _ h => h) ((Ex.fieldAddr rfl Try.underlying29 rfl sz27).s) ?_
          refine Any.one 7 (by kernel_rfl) rfl rfl (One.of_ops rfl ?_)
          refine Ops.store 5 [.slice A1218 l1218.length c1218] hst1218 rfl rfl rfl rfl sz27 rfl (by simp [Value.oneCell']) (by simp) (fun w1219 hst1219 => Ops.stop ?_)
          have hS0 := (⟨_, _, hm1212, (St.up (St.up (St.up hst1219 6 rfl) 5 rfl) 2 rfl)⟩ : (fun w => ∃ ζ Y, Le z1209 ζ ∧ Ht w0 (frz ζ :: (orow 24 4 (.slice A1009 l1009.length c1009) l1009.length d1009) :: (blk g2 [.slice none 0 0, .slice none 0 0, vi 0] 29) :: Y) w) _)
          refine ⟨⟨.inr (fun _ => hS0), .inl (by decide), .inl (by decide), .inl (by decide), trivial⟩, ?_⟩
          refine Any.done (by kernel_rfl) ?_
          refine Run.endBlk ?_
          refine Run.region ?_
          refine Ops.ex (Ex.move rfl) rfl rfl rfl ?_
          refine Ops.ex (Ex.sub rfl rfl) rfl rfl rfl ?_
          refine Ops.ex (Ex.assign rfl) rfl rfl rfl ?_
          refine Ops.nil ?_
          exact Run.sub (by exact subB_spec ⟨rfl, rfl, rfl, rfl, rfl, trivial⟩) (Run.stop ⟨mb1043', Nat.lt_succ_self _, wr (x1202 - 1), y1213.2.b_, y1213.2.bad_, l1218, A1215, c1215, A1218, c1218, d1218, z1213, (hnxb1043 _).symm.trans hf, rfl, hz1208, hy1208_0, hy1208_1, f1215, f1218, (St.up (St.up (St.up (St.up (St.up (St.up (St.forget hst1219 1) 5 rfl) 5 rfl) 5 rfl) 4 rfl) 5 rfl) 5 rfl)⟩)
        · replace hf := ifTb (bn_F hc) hf
          refine Run.exit _ rfl ?_
          refine Run.seq ?_
          refine Run.seq ?_
          have hm1233 := Le.refl z1209
          apply Run.jn (fun e' w' => ∃ (l1235 : List apiRef) (l1236 : List Str) (b1237 : Bool) (A1235 : Option Addr) (c1235 : Nat) (A1236 : Option Addr) (c1236 : Nat) (z1234 : Zp), go_edits_Read.j1 y7 l1235 l1236 b1237 = some r ∧ e' = [(2, .pointer (some ⟨g2, 0, none⟩)), (5, .pointer (some ⟨g11, 0, none⟩)), (72, vb b1237)] ∧ Le z1209 z1234 ∧ Le z0 z1234 ∧ Le z13 z1234 ∧ Le z1039 z1234 ∧ Sl tapiRef z1234 A1235 c1235 l1235 ∧ Sl tS z1234 A1236 c1236 l1236 ∧ Ht w0 (frz z1234 :: (blk g11 [.slice A1235 l1235.length c1235, .slice A1236 l1236.length c1236, vi y7.1] 29) :: (blk g2 [.slice none 0 0, .slice none 0 0, vi 0] 29) :: X) w')
          · intro hj1220
            refine Run.drawH [([], fun w => ∃ ζ Y, Le z1209 ζ ∧ Ht w0 (frz ζ :: (blk g11 [.slice A1009 l1009.length c1009, .slice A1205 l1205.length c1205, vi y7.1] 29) :: (blk g2 [.slice none 0 0, .slice none 0 0, vi 0] 29) :: Y) w), ([1, 5, 6, 8], fun w => ∃ ζ Y, Le z1209 ζ ∧ Ht w0 (frz ζ :: (blk g4 [.slice A1203 l1203.length c1203, vb b1204] 97) :: Y) w), ([5, 6, 8], fun w => ∃ ζ Y, Le z1209 ζ ∧ Ht w0 (frz ζ :: (orow 24 4 (.slice A1009 l1009.length c1009) l1009.length d1009) :: Y) w), ([5, 6, 8], fun w => ∃ ζ Y, Le z1209 ζ ∧ Ht w0 (frz ζ :: (orow 9 1 (.slice A1205 l1205.length c1205) l1205.length d1205) :: Y) w)] (by kernel_rfl) hst1209 (fun w1238 hst1238 => ?_)
            have hS0 := (⟨_, _, (Le.refl _), (St.up (St.up (St.up hst1238 5 rfl) 5 rfl) 2 rfl)⟩ : (fun w => ∃ ζ Y, Le z1209 ζ ∧ Ht w0 (frz ζ :: (blk g11 [.slice A1009 l1009.length c1009, .slice A1205 l1205.length c1205, vi y7.1] 29) :: (blk g2 [.slice none 0 0, .slice none 0 0, vi 0] 29) :: Y) w) _)
            have hS1 := (⟨_, _, (Le.refl _), (St.up (St.up hst1238 1 rfl) 1 rfl)⟩ : (fun w => ∃ ζ Y, Le z1209 ζ ∧ Ht w0 (frz ζ :: (blk g4 [.slice A1203 l1203.length c1203, vb b1204] 97) :: Y) w) _)
            have hS2 := (⟨_, _, (Le.refl _), (St.up (St.up hst1238 3 rfl) 1 rfl)⟩ : (fun w => ∃ ζ Y, Le z1209 ζ ∧ Ht w0 (frz ζ :: (orow 24 4 (.slice A1009 l1009.length c1009) l1009.length d1009) :: Y) w) _)
            have hS3 := (⟨_, _, (Le.refl _), (St.up (St.up hst1238 2 rfl) 1 rfl)⟩ : (fun w => ∃ ζ Y, Le z1209 ζ ∧ Ht w0 (frz ζ :: (orow 9 1 (.slice A1205 l1205.length c1205) l1205.length d1205) :: Y) w) _)
            refine Any.takeE 0 rfl rfl rfl rfl (by kernel_rfl) (fun _ _ _ _ _ h => h) ((Ex.move rfl).s) ?_
            obtain ⟨y1239, hy1239, hf⟩ := bnd hf
            refine Any.one 1 (by kernel_rfl) rfl rfl (One.of_ops rfl ?_)
            refine Ops.call rfl rfl Try.func43 (by kernel_rfl) (by kernel_rfl) rfl (go_pack_Reader_Done.walk (p0 := (⟨l1203, b1204⟩ : packReader)) (hst := hst1238) (f1 := f1203) (hf := hy1239)) ?_
            rintro _ w1239 ⟨z1239, rfl, hz1239, hst1239⟩
            refine ⟨_, rfl, Ops.stop ?_⟩
            replace f1 := f1.mono hz1239; replace f1203 := f1203.mono hz1239; replace f1205 := f1205.mono hz1239; replace f1009 := f1009.mono hz1239
            replace hy1208_0 := hy1208_0.trans hz1239
            replace hy1208_1 := hy1208_1.trans hz1239
            replace hz1208 := hz1208.trans hz1239
            replace hm1233 := hm1233.trans hz1239
            have hS0 := (⟨_, _, hm1233, (St.up (St.up (St.up hst1239 5 rfl) 5 rfl) 2 rfl)⟩ : (fun w => ∃ ζ Y, Le z1209 ζ ∧ Ht w0 (frz ζ :: (blk g11 [.slice A1009 l1009.length c1009, .slice A1205 l1205.length c1205, vi y7.1] 29) :: (blk g2 [.slice none 0 0, .slice none 0 0, vi 0] 29) :: Y) w) _)
            have hS2 := (⟨_, _, hm1233, (St.up (St.up hst1239 3 rfl) 1 rfl)⟩ : (fun w => ∃ ζ Y, Le z1209 ζ ∧ Ht w0 (frz ζ :: (orow 24 4 (.slice A1009 l1009.length c1009) l1009.length d1009) :: Y) w) _)
            have hS3 := (⟨_, _, hm1233, (St.up (St.up hst1239 2 rfl) 1 rfl)⟩ : (fun w => ∃ ζ Y, Le z1209 ζ ∧ Ht w0 (frz ζ :: (orow 9 1 (.slice A1205 l1205.length c1205) l1205.length d1205) :: Y) w) _)
            refine ⟨⟨.inr (fun _ => hS0), .inl (by decide), .inr (fun _ => hS2), .inr (fun _ => hS3), trivial⟩, ?_⟩
            refine Any.takeE 2 rfl rfl rfl rfl (by kernel_rfl) (fun _ _ _ _ _ h => h) ((Ex.not rfl).s) ?_
            refine Any.takeE 3 rfl rfl rfl rfl (by kernel_rfl) (fun _ _ _ _ _ h => h) ((Ex.move rfl).s) ?_
            refine Any.case 65 rfl (fun hc => ?_) (fun hc => ?_)
            · replace hf := ifFb (bn_T hc) hf
              refine Any.pass 4 rfl rfl rfl rfl (by kernel_rfl) (fun _ _ _ _ _ h => h) ?_
              refine Any.pass 5 rfl rfl rfl rfl (by kernel_rfl) (fun _ _ _ _ _ h => h) ?_
              refine Any.pass 6 rfl rfl rfl rfl (by kernel_rfl) (fun _ _ _ _ _ h => h) ?_
              refine Any.pass 7 rfl rfl rfl rfl (by kernel_rfl) (fun _ _ _ _ _ h => h) ?_
              refine Any.pass 8 rfl rfl rfl rfl (by kernel_rfl) (fun _ _ _ _ _ h => h) ?_
              refine Any.pass 9 rfl rfl rfl rfl (by kernel_rfl) (fun _ _ _ _ _ h => h) ?_
              refine Any.takeE 10 rfl rfl rfl rfl (by kernel_rfl) (fun _ _ _ _ _ h => h) ((Ex.pickT rfl rfl).s) ?_
              refine Any.done (by kernel_rfl) ?_
              obtain ⟨z1241, hz1241, f1241, hst1241⟩ := St.freeze (τ := tapiRef) (xs := l1009) (St.up (St.up (St.up (St.up (St.up (St.up hst1239 5 rfl) 5 rfl) 4 rfl) 4 rfl) 5 rfl) 5 rfl) f1009 rfl
              replace f1 := f1.mono hz1241; replace f1203 := f1203.mono hz1241; replace f1205 := f1205.mono hz1241
              replace hy1208_0 := hy1208_0.trans hz1241
              replace hy1208_1 := hy1208_1.trans hz1241
              replace hz1208 := hz1208.trans hz1241
              replace hm1233 := hm1233.trans hz1241
              obtain ⟨z1242, hz1242, f1242, hst1242⟩ := St.freeze (τ := tS) (xs := l1205) (St.up (St.up (St.up (St.up (St.up hst1241 4 rfl) 4 rfl) 3 rfl) 4 rfl) 4 rfl) f1205 rfl
              replace f1 := f1.mono hz1242; replace f1203 := f1203.mono hz1242; replace f1241 := f1241.mono hz1242
              replace hy1208_0 := hy1208_0.trans hz1242
              replace hy1208_1 := hy1208_1.trans hz1242
              replace hz1208 := hz1208.trans hz1242
              replace hm1233 := hm1233.trans hz1242
              exact Run.sub (by exact subB_spec ⟨rfl, rfl, rfl, trivial⟩) (hj1220 _ _ ⟨l1009, l1205, true, A1009, c1009, A1205, c1205, z1242, hf, rfl, hm1233, hy1208_0, hy1208_1, hz1208, f1241, f1242, (St.forget hst1242 1)⟩)
            · replace hf := ifTb (bn_F hc) hf
              refine Any.take 0 4 rfl rfl rfl rfl rfl (by kernel_rfl) (fun _ _ _ _ _ h => h) (ExS.g (ExS.loadAgg [.slice A1009 l1009.length c1009, .slice A1205 l1205.length c1205, vi y7.1] rfl Try.underlying29 rfl sz29 rfl (fun w hS => by obtain ⟨_, _, _, hs⟩ := hS; exact hs.cells (i := 1) rfl 0 3))) hS0 ?_
              refine Any.takeE 7 rfl rfl rfl rfl (by kernel_rfl) (fun _ _ _ _ _ h => h) (ExS.g ((Ex.move rfl).s)) ?_
              refine Any.all [5, 8] (by kernel_rfl) rfl (fun i hi => ?_)
              simp only [List.mem_cons, List.not_mem_nil, or_false] at hi
              rcases hi with rfl | rfl
              · skip
                obtain ⟨z1244, hz1244, f1244, hst1244⟩ := St.freeze (τ := tapiRef) (xs := l1009) (St.up (St.up (St.up (St.up (St.up (St.up hst1239 5 rfl) 5 rfl) 4 rfl) 4 rfl) 5 rfl) 5 rfl) f1009 rfl
                replace f1 := f1.mono hz1244; replace f1203 := f1203.mono hz1244; replace f1205 := f1205.mono hz1244
                replace hy1208_0 := hy1208_0.trans hz1244
                replace hy1208_1 := hy1208_1.trans hz1244
                replace hz1208 := hz1208.trans hz1244
                replace hm1233 := hm1233.trans hz1244
                obtain ⟨z1245, hz1245, f1245, hst1245⟩ := St.freeze (τ := tS) (xs := l1205) (St.up (St.up (St.up (St.up (St.up hst1244 4 rfl) 4 rfl) 3 rfl) 4 rfl) 4 rfl) f1205 rfl
                replace f1 := f1.mono hz1245; replace f1244 := f1244.mono hz1245; replace f1203 := f1203.mono hz1245
                replace hy1208_0 := hy1208_0.trans hz1245
                replace hy1208_1 := hy1208_1.trans hz1245
                replace hz1208 := hz1208.trans hz1245
                replace hm1233 := hm1233.trans hz1245
                obtain ⟨y1243, hy1243, hf⟩ := bnd hf
                refine ⟨_, rfl, rfl, One.g <| One.of_ops rfl ?_⟩
                refine Ops.call rfl rfl Try.func18 (by kernel_rfl) (by kernel_rfl) rfl (go_edits_Bytes.walk (p0 := (⟨l1009, l1205, y7.1⟩ : editsEdit)) (hst := hst1245) (f1 := f1244) (f2 := f1245) (hf := hy1243)) ?_
                rintro _ w1243 ⟨z1243, A1246, c1246, rfl, hz1243, f1246, hst1243⟩
                refine ⟨_, rfl, Ops.stop ?_⟩
                replace f1 := f1.mono hz1243; replace f1244 := f1244.mono hz1243; replace f1245 := f1245.mono hz1243; replace f1203 := f1203.mono hz1243
                replace hy1208_0 := hy1208_0.trans hz1243
                replace hy1208_1 := hy1208_1.trans hz1243
                replace hz1208 := hz1208.trans hz1243
                replace hm1233 := hm1233.trans hz1243
                have hS0 := (⟨_, _, hm1233, (St.up (St.up (St.up hst1243 3 rfl) 3 rfl) 2 rfl)⟩ : (fun w => ∃ ζ Y, Le z1209 ζ ∧ Ht w0 (frz ζ :: (blk g11 [.slice A1009 l1009.length c1009, .slice A1205 l1205.length c1205, vi y7.1] 29) :: (blk g2 [.slice none 0 0, .slice none 0 0, vi 0] 29) :: Y) w) _)
                refine ⟨⟨.inr (fun _ => hS0), .inl (by decide), .inl (by decide), .inl (by decide), trivial⟩, ?_⟩
                refine Any.all [6, 8] (by kernel_rfl) rfl (fun i hi => ?_)
                simp only [List.mem_cons, List.not_mem_nil, or_false] at hi
                rcases hi with rfl | rfl
                · skip
                  refine ⟨_, rfl, rfl, One.g <| One.of_ops rfl ?_⟩
                  refine Ops.str8 (f1246.at_ hst1243) rfl Try.underlying30 Try.underlying5 Try.underlying9 rfl (Ops.stop ?_)
                  have hS0 := (⟨_, _, hm1233, (St.up (St.up (St.up hst1243 3 rfl) 3 rfl) 2 rfl)⟩ : (fun w => ∃ ζ Y, Le z1209 ζ ∧ Ht w0 (frz ζ :: (blk g11 [.slice A1009 l1009.length c1009, .slice A1205 l1205.length c1205, vi y7.1] 29) :: (blk g2 [.slice none 0 0, .slice none 0 0, vi 0] 29) :: Y) w) _)
                  refine ⟨⟨.inr (fun _ => hS0), .inl (by decide), .inl (by decide), .inl (by decide), trivial⟩, ?_⟩
                  refine Any.one 8 (by kernel_rfl) rfl rfl (One.g <| One.of_ops rfl ?_)
                  refine Ops.str8 (f1.at_ hst1243) rfl Try.underlying30 Try.underlying5 Try.underlying9 rfl (Ops.stop ?_)
                  have hS0 := (⟨_, _, hm1233, (St.up (St.up (St.up hst1243 3 rfl) 3 rfl) 2 rfl)⟩ : (fun w => ∃ ζ Y, Le z1209 ζ ∧ Ht w0 (frz ζ :: (blk g11 [.slice A1009 l1009.length c1009, .slice A1205 l1205.length c1205, vi y7.1] 29) :: (blk g2 [.slice none 0 0, .slice none 0 0, vi 0] 29) :: Y) w) _)
                  refine ⟨⟨.inr (fun _ => hS0), .inl (by decide), .inl (by decide), .inl (by decide), trivial⟩, ?_⟩
                  refine Any.takeE 9 rfl rfl rfl rfl (by kernel_rfl) (fun _ _ _ _ _ h => h) (ExS.g ((Ex.neqT rfl rfl).s)) ?_
                  refine Any.takeE 10 rfl rfl rfl rfl (by kernel_rfl) (fun _ _ _ _ _ h => h) ((Ex.pickF rfl rfl).s) ?_
                  refine Any.done (by kernel_rfl) ?_
                  exact Run.sub (by exact subB_spec ⟨rfl, rfl, rfl, trivial⟩) (hj1220 _ _ ⟨l1009, l1205, !(decide (y1243 = p0)), A1009, c1009, A1205, c1205, z1243, hf, rfl, hm1233, hy1208_0, hy1208_1, hz1208, f1244, f1245, (St.forget hst1243 1)⟩)
                · skip
                  refine ⟨_, rfl, rfl, One.g <| One.of_ops rfl ?_⟩
                  refine Ops.str8 (f1.at_ hst1243) rfl Try.underlying30 Try.underlying5 Try.underlying9 rfl (Ops.stop ?_)
                  have hS0 := (⟨_, _, hm1233, (St.up (St.up (St.up hst1243 3 rfl) 3 rfl) 2 rfl)⟩ : (fun w => ∃ ζ Y, Le z1209 ζ ∧ Ht w0 (frz ζ :: (blk g11 [.slice A1009 l1009.length c1009, .slice A1205 l1205.length c1205, vi y7.1] 29) :: (blk g2 [.slice none 0 0, .slice none 0 0, vi 0] 29) :: Y) w) _)
                  refine ⟨⟨.inr (fun _ => hS0), .inl (by decide), .inl (by decide), .inl (by decide), trivial⟩, ?_⟩
                  refine Any.one 6 (by kernel_rfl) rfl rfl (One.g <| One.of_ops rfl ?_)
                  refine Ops.str8 (f1246.at_ hst1243) rfl Try.underlying30 Try.underlying5 Try.underlying9 rfl (Ops.stop ?_)
                  have hS0 := (⟨_, _, hm1233, (St.up (St.up (St.up hst1243 3 rfl) 3 rfl) 2 rfl)⟩ : (fun w => ∃ ζ Y, Le z1209 ζ ∧ Ht w0 (frz ζ :: (blk g11 [.slice A1009 l1009.length c1009, .slice A1205 l1205.length c1205, vi y7.1] 29) :: (blk g2 [.slice none 0 0, .slice none 0 0, vi 0] 29) :: Y) w) _)
                  refine ⟨⟨.inr (fun _ => hS0), .inl (by decide), .inl (by decide), .inl (by decide), trivial⟩, ?_⟩
                  refine Any.takeE 9 rfl rfl rfl rfl (by kernel_rfl) (fun _ _ _ _ _ h => h) (ExS.g ((Ex.neqT rfl rfl).s)) ?_
                  refine Any.takeE 10 rfl rfl rfl rfl (by kernel_rfl) (fun _ _ _ _ _ h => h) ((Ex.pickF rfl rfl).s) ?_
                  refine Any.done (by kernel_rfl) ?_
                  exact Run.sub (by exact subB_spec ⟨rfl, rfl, rfl, trivial⟩) (hj1220 _ _ ⟨l1009, l1205, !(decide (y1243 = p0)), A1009, c1009, A1205, c1205, z1243, hf, rfl, hm1233, hy1208_0, hy1208_1, hz1208, f1244, f1245, (St.forget hst1243 1)⟩)
              · skip
                refine ⟨_, rfl, rfl, One.g <| One.of_ops rfl ?_⟩
                refine Ops.str8 (f1.at_ hst1239) rfl Try.underlying30 Try.underlying5 Try.underlying9 rfl (Ops.stop ?_)
                have hS0 := (⟨_, _, hm1233, (St.up (St.up (St.up hst1239 5 rfl) 5 rfl) 2 rfl)⟩ : (fun w => ∃ ζ Y, Le z1209 ζ ∧ Ht w0 (frz ζ :: (blk g11 [.slice A1009 l1009.length c1009, .slice A1205 l1205.length c1205, vi y7.1] 29) :: (blk g2 [.slice none 0 0, .slice none 0 0, vi 0] 29) :: Y) w) _)
                refine ⟨⟨.inr (fun _ => hS0), .inl (by decide), .inl (by decide), .inl (by decide), trivial⟩, ?_⟩
                obtain ⟨z1248, hz1248, f1248, hst1248⟩ := St.freeze (τ := tapiRef) (xs := l1009) (St.up (St.up (St.up (St.up (St.up (St.up hst1239 5 rfl) 5 rfl) 4 rfl) 4 rfl) 5 rfl) 5 rfl) f1009 rfl
                replace f1 := f1.mono hz1248; replace f1203 := f1203.mono hz1248; replace f1205 := f1205.mono hz1248
                replace hy1208_0 := hy1208_0.trans hz1248
                replace hy1208_1 := hy1208_1.trans hz1248
                replace hz1208 := hz1208.trans hz1248
                replace hm1233 := hm1233.trans hz1248
                obtain ⟨z1249, hz1249, f1249, hst1249⟩ := St.freeze (τ := tS) (xs := l1205) (St.up (St.up (St.up (St.up (St.up hst1248 4 rfl) 4 rfl) 3 rfl) 4 rfl) 4 rfl) f1205 rfl
                replace f1 := f1.mono hz1249; replace f1248 := f1248.mono hz1249; replace f1203 := f1203.mono hz1249
                replace hy1208_0 := hy1208_0.trans hz1249
                replace hy1208_1 := hy1208_1.trans hz1249
                replace hz1208 := hz1208.trans hz1249
                replace hm1233 := hm1233.trans hz1249
                obtain ⟨y1247, hy1247, hf⟩ := bnd hf
                refine Any.one 5 (by kernel_rfl) rfl rfl (One.g <| One.of_ops rfl ?_)
                refine Ops.call rfl rfl Try.func18 (by kernel_rfl) (by kernel_rfl) rfl (go_edits_Bytes.walk (p0 := (⟨l1009, l1205, y7.1⟩ : editsEdit)) (hst := hst1249) (f1 := f1248) (f2 := f1249) (hf := hy1247)) ?_
                rintro _ w1247 ⟨z1247, A1250, c1250, rfl, hz1247, f1250, hst1247⟩
                refine ⟨_, rfl, Ops.stop ?_⟩
                replace f1 := f1.mono hz1247; replace f1248 := f1248.mono hz1247; replace f1249 := f1249.mono hz1247; replace f1203 := f1203.mono hz1247
                replace hy1208_0 := hy1208_0.trans hz1247
                replace hy1208_1 := hy1208_1.trans hz1247
                replace hz1208 := hz1208.trans hz1247
                replace hm1233 := hm1233.trans hz1247
                have hS0 := (⟨_, _, hm1233, (St.up (St.up (St.up hst1247 3 rfl) 3 rfl) 2 rfl)⟩ : (fun w => ∃ ζ Y, Le z1209 ζ ∧ Ht w0 (frz ζ :: (blk g11 [.slice A1009 l1009.length c1009, .slice A1205 l1205.length c1205, vi y7.1] 29) :: (blk g2 [.slice none 0 0, .slice none 0 0, vi 0] 29) :: Y) w) _)
                refine ⟨⟨.inr (fun _ => hS0), .inl (by decide), .inl (by decide), .inl (by decide), trivial⟩, ?_⟩
                refine Any.one 6 (by kernel_rfl) rfl rfl (One.g <| One.of_ops rfl ?_)
                refine Ops.str8 (f1250.at_ hst1247) rfl Try.underlying30 Try.underlying5 Try.underlying9 rfl (Ops.stop ?_)
                have hS0 := (⟨_, _, hm1233, (St.up (St.up (St.up hst1247 3 rfl) 3 rfl) 2 rfl)⟩ : (fun w => ∃ ζ Y, Le z1209 ζ ∧ Ht w0 (frz ζ :: (blk g11 [.slice A1009 l1009.length c1009, .slice A1205 l1205.length c1205, vi y7.1] 29) :: (blk g2 [.slice none 0 0, .slice none 0 0, vi 0] 29) :: Y) w) _)
                refine ⟨⟨.inr (fun _ => hS0), .inl (by decide), .inl (by decide), .inl (by decide), trivial⟩, ?_⟩
                refine Any.takeE 9 rfl rfl rfl rfl (by kernel_rfl) (fun _ _ _ _ _ h => h) (ExS.g ((Ex.neqT rfl rfl).s)) ?_
                refine Any.takeE 10 rfl rfl rfl rfl (by kernel_rfl) (fun _ _ _ _ _ h => h) ((Ex.pickF rfl rfl).s) ?_
                refine Any.done (by kernel_rfl) ?_
                exact Run.sub (by exact subB_spec ⟨rfl, rfl, rfl, trivial⟩) (hj1220 _ _ ⟨l1009, l1205, !(decide (y1247 = p0)), A1009, c1009, A1205, c1205, z1247, hf, rfl, hm1233, hy1208_0, hy1208_1, hz1208, f1248, f1249, (St.forget hst1247 1)⟩)
          · rintro e' w1251 ⟨l1235, l1236, b1237, A1235, c1235, A1236, c1236, z1234, hf, rfl, hz1251, hy1251_0, hy1251_1, hy1251_2, f1235, f1236, hst1251⟩
            unfold go_edits_Read.j1 at hf
            refine Run.cond rfl (fun hc => ?_) (fun hc => ?_)
            · replace hf := ifTb hc hf
              refine Run.seq ?_
              refine Run.region ?_
              refine Ops.ex (Ex.build [.slice none 0 0, .slice none 0 0, vi 0] rfl Try.underlying29 zr29 (pl29 Try.underlying29) (by kernel_rfl)) rfl rfl rfl ?_
              refine Ops.store 2 [.slice none 0 0, .slice none 0 0, vi 0] hst1251 rfl rfl rfl rfl sz29 rfl (by simp [Value.oneCell']) (by simp) (fun w1252 hst1252 => ?_)
              refine Ops.ex (Ex.assign rfl) rfl rfl rfl ?_
              refine Ops.nil ?_
              obtain rfl := Option.some.inj hf
              exact Run.retV [.agg #[.slice none 0 0, .slice none 0 0, vi 0], vb false] rfl ⟨⟨_, rfl, run_loadN _ Try.underlying29 rfl sz29 rfl (hst1252.cells (i := 2) rfl 0 3)⟩, rfl, trivial⟩ ⟨z1234, none, 0, none, 0, rfl, hy1251_0, (Sl.nil _ _), (Sl.nil _ _), (St.forget (St.forget hst1252 2) 1)⟩
            · replace hf := ifFb hc hf
              refine Run.skip ?_
              refine Run.seq ?_
              refine Run.region ?_
              refine Ops.loadAgg _ rfl Try.underlying29 rfl sz29 rfl (hst1251.cells (i := 1) rfl 0 3) rfl ?_
              refine Ops.store 2 [.slice A1235 l1235.length c1235, .slice A1236 l1236.length c1236, vi y7.1] hst1251 rfl rfl rfl rfl sz29 rfl (by simp [Value.oneCell']) (by simp) (fun w1253 hst1253 => ?_)
              refine Ops.ex (Ex.assign rfl) rfl rfl rfl ?_
              refine Ops.nil ?_
              obtain rfl := Option.some.inj hf
              exact Run.retV [.agg #[.slice A1235 l1235.length c1235, .slice A1236 l1236.length c1236, vi y7.1], vb true] rfl ⟨⟨_, rfl, run_loadN _ Try.underlying29 rfl sz29 rfl (hst1253.cells (i := 2) rfl 0 3)⟩, rfl, trivial⟩ ⟨z1234, A1235, c1235, A1236, c1236, rfl, hy1251_0, f1235, f1236, (St.forget (St.forget hst1253 2) 1)⟩
      · replace hf := ifF (dec_F hc) hf
        refine Ops.off rfl rfl ?_
        refine Ops.off rfl rfl ?_
        refine Ops.off rfl rfl ?_
        refine Ops.ex (Ex.pickF rfl rfl) rfl rfl rfl ?_
        refine Ops.nil ?_
        refine Run.condF rfl rfl ?_
        refine Run.exit _ rfl ?_
        refine Run.seq ?_
        refine Run.seq ?_
        have hm1267 := Le.refl z1201
        apply Run.jn (fun e' w' => ∃ (l1269 : List apiRef) (l1270 : List Str) (b1271 : Bool) (A1269 : Option Addr) (c1269 : Nat) (A1270 : Option Addr) (c1270 : Nat) (z1268 : Zp), go_edits_Read.j2 y7 l1269 l1270 b1271 = some r ∧ e' = [(2, .pointer (some ⟨g2, 0, none⟩)), (5, .pointer (some ⟨g11, 0, none⟩)), (72, vb b1271)] ∧ Le z1201 z1268 ∧ Le z0 z1268 ∧ Le z13 z1268 ∧ Le z1039 z1268 ∧ Sl tapiRef z1268 A1269 c1269 l1269 ∧ Sl tS z1268 A1270 c1270 l1270 ∧ Ht w0 (frz z1268 :: (blk g11 [.slice A1269 l1269.length c1269, .slice A1270 l1270.length c1270, vi y7.1] 29) :: (blk g2 [.slice none 0 0, .slice none 0 0, vi 0] 29) :: X) w')
        · intro hj1254
          refine Run.drawH [([], fun w => ∃ ζ Y, Le z1201 ζ ∧ Ht w0 (frz ζ :: (blk g11 [.slice A1009 l1009.length c1009, .slice A1205 l1205.length c1205, vi y7.1] 29) :: (blk g2 [.slice none 0 0, .slice none 0 0, vi 0] 29) :: Y) w), ([1, 5, 6, 8], fun w => ∃ ζ Y, Le z1201 ζ ∧ Ht w0 (frz ζ :: (blk g4 [.slice A1203 l1203.length c1203, vb b1204] 97) :: Y) w), ([5, 6, 8], fun w => ∃ ζ Y, Le z1201 ζ ∧ Ht w0 (frz ζ :: (orow 24 4 (.slice A1009 l1009.length c1009) l1009.length d1009) :: Y) w), ([5, 6, 8], fun w => ∃ ζ Y, Le z1201 ζ ∧ Ht w0 (frz ζ :: (orow 9 1 (.slice A1205 l1205.length c1205) l1205.length d1205) :: Y) w)] (by kernel_rfl) hst1208 (fun w1272 hst1272 => ?_)
          have hS0 := (⟨_, _, (Le.refl _), (St.up (St.up (St.up hst1272 5 rfl) 5 rfl) 2 rfl)⟩ : (fun w => ∃ ζ Y, Le z1201 ζ ∧ Ht w0 (frz ζ :: (blk g11 [.slice A1009 l1009.length c1009, .slice A1205 l1205.length c1205, vi y7.1] 29) :: (blk g2 [.slice none 0 0, .slice none 0 0, vi 0] 29) :: Y) w) _)
          have hS1 := (⟨_, _, (Le.refl _), (St.up (St.up hst1272 2 rfl) 1 rfl)⟩ : (fun w => ∃ ζ Y, Le z1201 ζ ∧ Ht w0 (frz ζ :: (blk g4 [.slice A1203 l1203.length c1203, vb b1204] 97) :: Y) w) _)
          have hS2 := (⟨_, _, (Le.refl _), (St.up (St.up hst1272 3 rfl) 1 rfl)⟩ : (fun w => ∃ ζ Y, Le z1201 ζ ∧ Ht w0 (frz ζ :: (orow 24 4 (.slice A1009 l1009.length c1009) l1009.length d1009) :: Y) w) _)
          have hS3 := (⟨_, _, (Le.refl _), (St.up (St.up hst1272 1 rfl) 1 rfl)⟩ : (fun w => ∃ ζ Y, Le z1201 ζ ∧ Ht w0 (frz ζ :: (orow 9 1 (.slice A1205 l1205.length c1205) l1205.length d1205) :: Y) w) _)
          refine Any.takeE 0 rfl rfl rfl rfl (by kernel_rfl) (fun _ _ _ _ _ h => h) ((Ex.move rfl).s) ?_
          obtain ⟨y1273, hy1273, hf⟩ := bnd hf
          refine Any.one 1 (by kernel_rfl) rfl rfl (One.of_ops rfl ?_)
          refine Ops.call rfl rfl Try.func43 (by kernel_rfl) (by kernel_rfl) rfl (go_pack_Reader_Done.walk (p0 := (⟨l1203, b1204⟩ : packReader)) (hst := (St.up (St.up (St.up (St.up (St.up (St.up hst1272 5 rfl) 5 rfl) 5 rfl) 4 rfl) 5 rfl) 5 rfl)) (f1 := f1203) (hf := hy1273)) ?_
          rintro _ w1273 ⟨z1273, rfl, hz1273, hst1273⟩
          refine ⟨_, rfl, Ops.stop ?_⟩
          replace f1 := f1.mono hz1273; replace f1203 := f1203.mono hz1273; replace f1205 := f1205.mono hz1273; replace f1009 := f1009.mono hz1273
          replace hy1208_0 := hy1208_0.trans hz1273
          replace hy1208_1 := hy1208_1.trans hz1273
          replace hz1208 := hz1208.trans hz1273
          replace hm1267 := hm1267.trans hz1273
          have hS0 := (⟨_, _, hm1267, (St.up (St.up (St.up hst1273 5 rfl) 5 rfl) 2 rfl)⟩ : (fun w => ∃ ζ Y, Le z1201 ζ ∧ Ht w0 (frz ζ :: (blk g11 [.slice A1009 l1009.length c1009, .slice A1205 l1205.length c1205, vi y7.1] 29) :: (blk g2 [.slice none 0 0, .slice none 0 0, vi 0] 29) :: Y) w) _)
          have hS2 := (⟨_, _, hm1267, (St.up (St.up hst1273 3 rfl) 1 rfl)⟩ : (fun w => ∃ ζ Y, Le z1201 ζ ∧ Ht w0 (frz ζ :: (orow 24 4 (.slice A1009 l1009.length c1009) l1009.length d1009) :: Y) w) _)
          have hS3 := (⟨_, _, hm1267, (St.up (St.up hst1273 2 rfl) 1 rfl)⟩ : (fun w => ∃ ζ Y, Le z1201 ζ ∧ Ht w0 (frz ζ :: (orow 9 1 (.slice A1205 l1205.length c1205) l1205.length d1205) :: Y) w) _)
          refine ⟨⟨.inr (fun _ => hS0), .inl (by decide), .inr (fun _ => hS2), .inr (fun _ => hS3), trivial⟩, ?_⟩
          refine Any.takeE 2 rfl rfl rfl rfl (by kernel_rfl) (fun _ _ _ _ _ h => h) ((Ex.not rfl).s) ?_
          refine Any.takeE 3 rfl rfl rfl rfl (by kernel_rfl) (fun _ _ _ _ _ h => h) ((Ex.move rfl).s) ?_
          refine Any.case 65 rfl (fun hc => ?_) (fun hc => ?_)
          · replace hf := ifFb (bn_T hc) hf
            refine Any.pass 4 rfl rfl rfl rfl (by kernel_rfl) (fun _ _ _ _ _ h => h) ?_
            refine Any.pass 5 rfl rfl rfl rfl (by kernel_rfl) (fun _ _ _ _ _ h => h) ?_
            refine Any.pass 6 rfl rfl rfl rfl (by kernel_rfl) (fun _ _ _ _ _ h => h) ?_
            refine Any.pass 7 rfl rfl rfl rfl (by kernel_rfl) (fun _ _ _ _ _ h => h) ?_
            refine Any.pass 8 rfl rfl rfl rfl (by kernel_rfl) (fun _ _ _ _ _ h => h) ?_
            refine Any.pass 9 rfl rfl rfl rfl (by kernel_rfl) (fun _ _ _ _ _ h => h) ?_
            refine Any.takeE 10 rfl rfl rfl rfl (by kernel_rfl) (fun _ _ _ _ _ h => h) ((Ex.pickT rfl rfl).s) ?_
            refine Any.done (by kernel_rfl) ?_
            obtain ⟨z1275, hz1275, f1275, hst1275⟩ := St.freeze (τ := tapiRef) (xs := l1009) (St.up (St.up (St.up (St.up (St.up (St.up hst1273 5 rfl) 5 rfl) 4 rfl) 4 rfl) 5 rfl) 5 rfl) f1009 rfl
            replace f1 := f1.mono hz1275; replace f1203 := f1203.mono hz1275; replace f1205 := f1205.mono hz1275
            replace hy1208_0 := hy1208_0.trans hz1275
            replace hy1208_1 := hy1208_1.trans hz1275
            replace hz1208 := hz1208.trans hz1275
            replace hm1267 := hm1267.trans hz1275
            obtain ⟨z1276, hz1276, f1276, hst1276⟩ := St.freeze (τ := tS) (xs := l1205) (St.up (St.up (St.up (St.up (St.up hst1275 4 rfl) 4 rfl) 3 rfl) 4 rfl) 4 rfl) f1205 rfl
            replace f1 := f1.mono hz1276; replace f1203 := f1203.mono hz1276; replace f1275 := f1275.mono hz1276
            replace hy1208_0 := hy1208_0.trans hz1276
            replace hy1208_1 := hy1208_1.trans hz1276
            replace hz1208 := hz1208.trans hz1276
            replace hm1267 := hm1267.trans hz1276
            exact Run.sub (by exact subB_spec ⟨rfl, rfl, rfl, trivial⟩) (hj1254 _ _ ⟨l1009, l1205, true, A1009, c1009, A1205, c1205, z1276, hf, rfl, hm1267, hy1208_0, hy1208_1, hz1208, f1275, f1276, (St.forget hst1276 1)⟩)
          · replace hf := ifTb (bn_F hc) hf
            refine Any.take 0 4 rfl rfl rfl rfl rfl (by kernel_rfl) (fun _ _ _ _ _ h => h) (ExS.g (ExS.loadAgg [.slice A1009 l1009.length c1009, .slice A1205 l1205.length c1205, vi y7.1] rfl Try.underlying29 rfl sz29 rfl (fun w hS => by obtain ⟨_, _, _, hs⟩ := hS; exact hs.cells (i := 1) rfl 0 3))) hS0 ?_
            refine Any.takeE 7 rfl rfl rfl rfl (by kernel_rfl) (fun _ _ _ _ _ h => h) (ExS.g ((Ex.move rfl).s)) ?_
            refine Any.all [5, 8] (by kernel_rfl) rfl (fun i hi => ?_)
            simp only [List.mem_cons, List.not_mem_nil, or_false] at hi
            rcases hi with rfl | rfl
            · skip
              obtain ⟨z1278, hz1278, f1278, hst1278⟩ := St.freeze (τ := tapiRef) (xs := l1009) (St.up (St.up (St.up (St.up (St.up (St.up hst1273 5 rfl) 5 rfl) 4 rfl) 4 rfl) 5 rfl) 5 rfl) f1009 rfl
              replace f1 := f1.mono hz1278; replace f1203 := f1203.mono hz1278; replace f1205 := f1205.mono hz1278
              replace hy1208_0 := hy1208_0.trans hz1278
              replace hy1208_1 := hy1208_1.trans hz1278
              replace hz1208 := hz1208.trans hz1278
              replace hm1267 := hm1267.trans hz1278
              obtain ⟨z1279, hz1279, f1279, hst1279⟩ := St.freeze (τ := tS) (xs := l1205) (St.up (St.up (St.up (St.up (St.up hst1278 4 rfl) 4 rfl) 3 rfl) 4 rfl) 4 rfl) f1205 rfl
              replace f1 := f1.mono hz1279; replace f1278 := f1278.mono hz1279; replace f1203 := f1203.mono hz1279
              replace hy1208_0 := hy1208_0.trans hz1279
              replace hy1208_1 := hy1208_1.trans hz1279
              replace hz1208 := hz1208.trans hz1279
              replace hm1267 := hm1267.trans hz1279
              obtain ⟨y1277, hy1277, hf⟩ := bnd hf
              refine ⟨_, rfl, rfl, One.g <| One.of_ops rfl ?_⟩
              refine Ops.call rfl rfl Try.func18 (by kernel_rfl) (by kernel_rfl) rfl (go_edits_Bytes.walk (p0 := (⟨l1009, l1205, y7.1⟩ : editsEdit)) (hst := hst1279) (f1 := f1278) (f2 := f1279) (hf := hy1277)) ?_
              rintro _ w1277 ⟨z1277, A1280, c1280, rfl, hz1277, f1280, hst1277⟩
              refine ⟨_, rfl, Ops.stop ?_⟩
              replace f1 := f1.mono hz1277; replace f1278 := f1278.mono hz1277; replace f1279 := f1279.mono hz1277; replace f1203 := f1203.mono hz1277
              replace hy1208_0 := hy1208_0.trans hz1277
              replace hy1208_1 := hy1208_1.trans hz1277
              replace hz1208 := hz1208.trans hz1277
              replace hm1267 := hm1267.trans hz1277
              have hS0 := (⟨_, _, hm1267, (St.up (St.up (St.up hst1277 3 rfl) 3 rfl) 2 rfl)⟩ : (fun w => ∃ ζ Y, Le z1201 ζ ∧ Ht w0 (frz ζ :: (blk g11 [.slice A1009 l1009.length c1009, .slice A1205 l1205.length c1205, vi y7.1] 29) :: (blk g2 [.slice none 0 0, .slice none 0 0, vi 0] 29) :: Y) w) _)
              refine ⟨⟨.inr (fun _ => hS0), .inl (by decide), .inl (by decide), .inl (by decide), trivial⟩, ?_⟩
              refine Any.all [6, 8] (by kernel_rfl) rfl (fun i hi => ?_)
              simp only [List.mem_cons, List.not_mem_nil, or_false] at hi
              rcases hi with rfl | rfl
              · skip
                refine ⟨_, rfl, rfl, One.g <| One.of_ops rfl ?_⟩
                refine Ops.str8 (f1280.at_ hst1277) rfl Try.underlying30 Try.underlying5 Try.underlying9 rfl (Ops.stop ?_)
                have hS0 := (⟨_, _, hm1267, (St.up (St.up (St.up hst1277 3 rfl) 3 rfl) 2 rfl)⟩ : (fun w => ∃ ζ Y, Le z1201 ζ ∧ Ht w0 (frz ζ :: (blk g11 [.slice A1009 l1009.length c1009, .slice A1205 l1205.length c1205, vi y7.1] 29) :: (blk g2 [.slice none 0 0, .slice none 0 0, vi 0] 29) :: Y) w) _)
                refine ⟨⟨.inr (fun _ => hS0), .inl (by decide), .inl (by decide), .inl (by decide), trivial⟩, ?_⟩
                refine Any.one 8 (by kernel_rfl) rfl rfl (One.g <| One.of_ops rfl ?_)
                refine Ops.str8 (f1.at_ hst1277) rfl Try.underlying30 Try.underlying5 Try.underlying9 rfl (Ops.stop ?_)
                have hS0 := (⟨_, _, hm1267, (St.up (St.up (St.up hst1277 3 rfl) 3 rfl) 2 rfl)⟩ : (fun w => ∃ ζ Y, Le z1201 ζ ∧ Ht w0 (frz ζ :: (blk g11 [.slice A1009 l1009.length c1009, .slice A1205 l1205.length c1205, vi y7.1] 29) :: (blk g2 [.slice none 0 0, .slice none 0 0, vi 0] 29) :: Y) w) _)
                refine ⟨⟨.inr (fun _ => hS0), .inl (by decide), .inl (by decide), .inl (by decide), trivial⟩, ?_⟩
                refine Any.takeE 9 rfl rfl rfl rfl (by kernel_rfl) (fun _ _ _ _ _ h => h) (ExS.g ((Ex.neqT rfl rfl).s)) ?_
                refine Any.takeE 10 rfl rfl rfl rfl (by kernel_rfl) (fun _ _ _ _ _ h => h) ((Ex.pickF rfl rfl).s) ?_
                refine Any.done (by kernel_rfl) ?_
                exact Run.sub (by exact subB_spec ⟨rfl, rfl, rfl, trivial⟩) (hj1254 _ _ ⟨l1009, l1205, !(decide (y1277 = p0)), A1009, c1009, A1205, c1205, z1277, hf, rfl, hm1267, hy1208_0, hy1208_1, hz1208, f1278, f1279, (St.forget hst1277 1)⟩)
              · skip
                refine ⟨_, rfl, rfl, One.g <| One.of_ops rfl ?_⟩
                refine Ops.str8 (f1.at_ hst1277) rfl Try.underlying30 Try.underlying5 Try.underlying9 rfl (Ops.stop ?_)
                have hS0 := (⟨_, _, hm1267, (St.up (St.up (St.up hst1277 3 rfl) 3 rfl) 2 rfl)⟩ : (fun w => ∃ ζ Y, Le z1201 ζ ∧ Ht w0 (frz ζ :: (blk g11 [.slice A1009 l1009.length c1009, .slice A1205 l1205.length c1205, vi y7.1] 29) :: (blk g2 [.slice none 0 0, .slice none 0 0, vi 0] 29) :: Y) w) _)
                refine ⟨⟨.inr (fun _ => hS0), .inl (by decide), .inl (by decide), .inl (by decide), trivial⟩, ?_⟩
                refine Any.one 6 (by kernel_rfl) rfl rfl (One.g <| One.of_ops rfl ?_)
                refine Ops.str8 (f1280.at_ hst1277) rfl Try.underlying30 Try.underlying5 Try.underlying9 rfl (Ops.stop ?_)
                have hS0 := (⟨_, _, hm1267, (St.up (St.up (St.up hst1277 3 rfl) 3 rfl) 2 rfl)⟩ : (fun w => ∃ ζ Y, Le z1201 ζ ∧ Ht w0 (frz ζ :: (blk g11 [.slice A1009 l1009.length c1009, .slice A1205 l1205.length c1205, vi y7.1] 29) :: (blk g2 [.slice none 0 0, .slice none 0 0, vi 0] 29) :: Y) w) _)
                refine ⟨⟨.inr (fun _ => hS0), .inl (by decide), .inl (by decide), .inl (by decide), trivial⟩, ?_⟩
                refine Any.takeE 9 rfl rfl rfl rfl (by kernel_rfl) (fun _ _ _ _ _ h => h) (ExS.g ((Ex.neqT rfl rfl).s)) ?_
                refine Any.takeE 10 rfl rfl rfl rfl (by kernel_rfl) (fun _ _ _ _ _ h => h) ((Ex.pickF rfl rfl).s) ?_
                refine Any.done (by kernel_rfl) ?_
                exact Run.sub (by exact subB_spec ⟨rfl, rfl, rfl, trivial⟩) (hj1254 _ _ ⟨l1009, l1205, !(decide (y1277 = p0)), A1009, c1009, A1205, c1205, z1277, hf, rfl, hm1267, hy1208_0, hy1208_1, hz1208, f1278, f1279, (St.forget hst1277 1)⟩)
            · skip
              refine ⟨_, rfl, rfl, One.g <| One.of_ops rfl ?_⟩
              refine Ops.str8 (f1.at_ hst1273) rfl Try.underlying30 Try.underlying5 Try.underlying9 rfl (Ops.stop ?_)
              have hS0 := (⟨_, _, hm1267, (St.up (St.up (St.up hst1273 5 rfl) 5 rfl) 2 rfl)⟩ : (fun w => ∃ ζ Y, Le z1201 ζ ∧ Ht w0 (frz ζ :: (blk g11 [.slice A1009 l1009.length c1009, .slice A1205 l1205.length c1205, vi y7.1] 29) :: (blk g2 [.slice none 0 0, .slice none 0 0, vi 0] 29) :: Y) w) _)
              refine ⟨⟨.inr (fun _ => hS0), .inl (by decide), .inl (by decide), .inl (by decide), trivial⟩, ?_⟩
              obtain ⟨z1282, hz1282, f1282, hst1282⟩ := St.freeze (τ := tapiRef) (xs := l1009) (St.up (St.up (St.up (St.up (St.up (St.up hst1273 5 rfl) 5 rfl) 4 rfl) 4 rfl) 5 rfl) 5 rfl) f1009 rfl
              replace f1 := f1.mono hz1282; replace f1203 := f1203.mono hz1282; replace f1205 := f1205.mono hz1282
              replace hy1208_0 := hy1208_0.trans hz1282
              replace hy1208_1 := hy1208_1.trans hz1282
              replace hz1208 := hz1208.trans hz1282
              replace hm1267 := hm1267.trans hz1282
              obtain ⟨z1283, hz1283, f1283, hst1283⟩ := St.freeze (τ := tS) (xs := l1205) (St.up (St.up (St.up (St.up (St.up hst1282 4 rfl) 4 rfl) 3 rfl) 4 rfl) 4 rfl) f1205 rfl
              replace f1 := f1.mono hz1283; replace f1282 := f1282.mono hz1283; replace f1203 := f1203.mono hz1283
              replace hy1208_0 := hy1208_0.trans hz1283
              replace hy1208_1 := hy1208_1.trans hz1283
              replace hz1208 := hz1208.trans hz1283
              replace hm1267 := hm1267.trans hz1283
              obtain ⟨y1281, hy1281, hf⟩ := bnd hf
              refine Any.one 5 (by kernel_rfl) rfl rfl (One.g <| One.of_ops rfl ?_)
              refine Ops.call rfl rfl Try.func18 (by kernel_rfl) (by kernel_rfl) rfl (go_edits_Bytes.walk (p0 := (⟨l1009, l1205, y7.1⟩ : editsEdit)) (hst := hst1283) (f1 := f1282) (f2 := f1283) (hf := hy1281)) ?_
              rintro _ w1281 ⟨z1281, A1284, c1284, rfl, hz1281, f1284, hst1281⟩
              refine ⟨_, rfl, Ops.stop ?_⟩
              replace f1 := f1.mono hz1281; replace f1282 := f1282.mono hz1281; replace f1283 := f1283.mono hz1281; replace f1203 := f1203.mono hz1281
              replace hy1208_0 := hy1208_0.trans hz1281
              replace hy1208_1 := hy1208_1.trans hz1281
              replace hz1208 := hz1208.trans hz1281
              replace hm1267 := hm1267.trans hz1281
              have hS0 := (⟨_, _, hm1267, (St.up (St.up (St.up hst1281 3 rfl) 3 rfl) 2 rfl)⟩ : (fun w => ∃ ζ Y, Le z1201 ζ ∧ Ht w0 (frz ζ :: (blk g11 [.slice A1009 l1009.length c1009, .slice A1205 l1205.length c1205, vi y7.1] 29) :: (blk g2 [.slice none 0 0, .slice none 0 0, vi 0] 29) :: Y) w) _)
              refine ⟨⟨.inr (fun _ => hS0), .inl (by decide), .inl (by decide), .inl (by decide), trivial⟩, ?_⟩
              refine Any.one 6 (by kernel_rfl) rfl rfl (One.g <| One.of_ops rfl ?_)
              refine Ops.str8 (f1284.at_ hst1281) rfl Try.underlying30 Try.underlying5 Try.underlying9 rfl (Ops.stop ?_)
              have hS0 := (⟨_, _, hm1267, (St.up (St.up (St.up hst1281 3 rfl) 3 rfl) 2 rfl)⟩ : (fun w => ∃ ζ Y, Le z1201 ζ ∧ Ht w0 (frz ζ :: (blk g11 [.slice A1009 l1009.length c1009, .slice A1205 l1205.length c1205, vi y7.1] 29) :: (blk g2 [.slice none 0 0, .slice none 0 0, vi 0] 29) :: Y) w) _)
              refine ⟨⟨.inr (fun _ => hS0), .inl (by decide), .inl (by decide), .inl (by decide), trivial⟩, ?_⟩
              refine Any.takeE 9 rfl rfl rfl rfl (by kernel_rfl) (fun _ _ _ _ _ h => h) (ExS.g ((Ex.neqT rfl rfl).s)) ?_
              refine Any.takeE 10 rfl rfl rfl rfl (by kernel_rfl) (fun _ _ _ _ _ h => h) ((Ex.pickF rfl rfl).s) ?_
              refine Any.done (by kernel_rfl) ?_
              exact Run.sub (by exact subB_spec ⟨rfl, rfl, rfl, trivial⟩) (hj1254 _ _ ⟨l1009, l1205, !(decide (y1281 = p0)), A1009, c1009, A1205, c1205, z1281, hf, rfl, hm1267, hy1208_0, hy1208_1, hz1208, f1282, f1283, (St.forget hst1281 1)⟩)
        · rintro e' w1285 ⟨l1269, l1270, b1271, A1269, c1269, A1270, c1270, z1268, hf, rfl, hz1285, hy1285_0, hy1285_1, hy1285_2, f1269, f1270, hst1285⟩
          unfold go_edits_Read.j2 at hf
          refine Run.cond rfl (fun hc => ?_) (fun hc => ?_)
          · replace hf := ifTb hc hf
            refine Run.seq ?_
            refine Run.region ?_
            refine Ops.ex (Ex.build [.slice none 0 0, .slice none 0 0, vi 0] rfl Try.underlying29 zr29 (pl29 Try.underlying29) (by kernel_rfl)) rfl rfl rfl ?_
            refine Ops.store 2 [.slice none 0 0, .slice none 0 0, vi 0] hst1285 rfl rfl rfl rfl sz29 rfl (by simp [Value.oneCell']) (by simp) (fun w1286 hst1286 => ?_)
            refine Ops.ex (Ex.assign rfl) rfl rfl rfl ?_
            refine Ops.nil ?_
            obtain rfl := Option.some.inj hf
            exact Run.retV [.agg #[.slice none 0 0, .slice none 0 0, vi 0], vb false] rfl ⟨⟨_, rfl, run_loadN _ Try.underlying29 rfl sz29 rfl (hst1286.cells (i := 2) rfl 0 3)⟩, rfl, trivial⟩ ⟨z1268, none, 0, none, 0, rfl, hy1285_0, (Sl.nil _ _), (Sl.nil _ _), (St.forget (St.forget hst1286 2) 1)⟩
          · replace hf := ifFb hc hf
            refine Run.skip ?_
            refine Run.seq ?_
            refine Run.region ?_
            refine Ops.loadAgg _ rfl Try.underlying29 rfl sz29 rfl (hst1285.cells (i := 1) rfl 0 3) rfl ?_
            refine Ops.store 2 [.slice A1269 l1269.length c1269, .slice A1270 l1270.length c1270, vi y7.1] hst1285 rfl rfl rfl rfl sz29 rfl (by simp [Value.oneCell']) (by simp) (fun w1287 hst1287 => ?_)
            refine Ops.ex (Ex.assign rfl) rfl rfl rfl ?_
            refine Ops.nil ?_
            obtain rfl := Option.some.inj hf
            exact Run.retV [.agg #[.slice A1269 l1269.length c1269, .slice A1270 l1270.length c1270, vi y7.1], vb true] rfl ⟨⟨_, rfl, run_loadN _ Try.underlying29 rfl sz29 rfl (hst1287.cells (i := 2) rfl 0 3)⟩, rfl, trivial⟩ ⟨z1268, A1269, c1269, A1270, c1270, rfl, hy1285_0, f1269, f1270, (St.forget (St.forget hst1287 2) 1)⟩
  · replace hf := ifF (dec_F hc) hf
    refine Ops.off rfl rfl ?_
    refine Ops.off rfl rfl ?_
    refine Ops.off rfl rfl ?_
    refine Ops.ex (Ex.pickF rfl rfl) rfl rfl rfl ?_
    refine Ops.nil ?_
    refine Run.condF rfl rfl ?_
    refine Run.exit _ rfl ?_
    refine Run.seq ?_
    refine Run.seq ?_
    refine Run.region ?_
    refine Ops.ex (Ex.move rfl) rfl rfl rfl ?_
    obtain ⟨y1288, hy1288, hf⟩ := bnd hf
    refine Ops.call rfl rfl Try.func39 (by kernel_rfl) (by kernel_rfl) rfl (go_pack_Reader_Num.walk (p0 := (⟨l1007, b1008⟩ : packReader)) (hst := (St.up (St.up (St.up (St.up (St.up hst1012 4 rfl) 4 rfl) 3 rfl) 4 rfl) 4 rfl)) (f1 := f1007) (hf := hy1288)) ?_
    rintro _ w1288 ⟨z1288, A1290, c1290, rfl, hz1288, f1290, hst1288⟩
    refine ⟨_, rfl, ?_⟩
    replace f1 := f1.mono hz1288; replace f1009 := f1009.mono hz1288
    replace hy1012_0 := hy1012_0.trans hz1288
    replace hz1012 := hz1012.trans hz1288
    refine Ops.ex (Ex.assign rfl) rfl rfl rfl ?_
    refine Ops.nil ?_
    refine Run.block ?_
    have hm1293 := Le.refl z1288
    have hst1455 := hst1288.row0 9 1
    refine Run.sub (e' := [(0, .slice A1 p0.length c1), (2, .pointer (some ⟨g2, 0, none⟩)), (4, .pointer (some ⟨g4, 0, none⟩)), (5, .pointer (some ⟨g11, 0, none⟩)), (8, vi y1288.1)]) (subB_spec ⟨rfl, rfl, rfl, rfl, rfl, trivial⟩) ?_
    refine Run.loop (fun mb1292 => (fun e' w' => ∃ (x1451 : Int) (l1452 : List UInt8) (b1453 : Bool) (l1454 : List Str) (A1452 : Option Addr) (c1452 : Nat) (A1454 : Option Addr) (c1454 : Nat) (d1454 : List Value) (z1450 : Zp), loopF (go_edits_Read.b3 p0 y7 l1009) mb1292 (x1451, l1452, b1453, l1454) = some r ∧ e' = [(0, .slice A1 p0.length c1), (2, .pointer (some ⟨g2, 0, none⟩)), (4, .pointer (some ⟨g4, 0, none⟩)), (5, .pointer (some ⟨g11, 0, none⟩)), (8, vi x1451)] ∧ Le z1288 z1450 ∧ Le z0 z1450 ∧ Le z13 z1450 ∧ Sl tU8 z1450 A1452 c1452 l1452 ∧ Cs tS z1450 d1454 l1454 ∧ Ht w0 (frz z1450 :: (orow 9 1 (.slice A1454 l1454.length c1454) l1454.length d1454) :: (blk g4 [.slice A1452 l1452.length c1452, vb b1453] 97) :: (orow 24 4 (.slice A1009 l1009.length c1009) l1009.length d1009) :: (blk g11 [.slice A1009 l1009.length c1009, .slice A1454 l1454.length c1454, vi y7.1] 29) :: (blk g2 [.slice none 0 0, .slice none 0 0, vi 0] 29) :: X) w')) fuel ⟨y1288.1, y1288.2.b_, y1288.2.bad_, [], A1290, c1290, none, 0, [], z1288, hf, rfl, hm1293, hy1012_0, hz1012, f1290, (Cs.nil _ _), hst1455⟩ ?_
    rintro mb1292 e' w1457 ⟨x1451, l1452, b1453, l1454, A1452, c1452, A1454, c1454, d1454, z1450, hf, rfl, hz1457, hy1457_0, hy1457_1, f1452, f1454, hst1457⟩
    replace f1 := f1.mono hz1457; replace f1009 := f1009.mono hz1457
    obtain ⟨mb1292', nxb1292, rfl, hnxb1292, hf⟩ := loopF_in hf
    unfold go_edits_Read.b3 at hf
    try dsimp only at hf
    refine Run.seq ?_
    refine Run.seq ?_
    refine Run.region ?_
    refine Ops.ex (Ex.move rfl) rfl rfl rfl ?_
    refine Ops.ex (Ex.gtr rfl rfl) rfl rfl rfl ?_
    refine Ops.ex (Ex.move rfl) rfl rfl rfl ?_
    refine Ops.case 48 rfl (fun hc => ?_) (fun hc => ?_)
    · replace hf := ifT (dec_T hc) hf
      refine Ops.on rfl ?_
      refine Ops.ex (Ex.move rfl) rfl rfl rfl ?_
      refine Ops.on rfl ?_
      obtain ⟨y1458, hy1458, hf⟩ := bnd hf
      refine Ops.call rfl rfl Try.func40 (by kernel_rfl) (by kernel_rfl) rfl (go_pack_Reader_Bad.walk (p0 := (⟨l1452, b1453⟩ : packReader)) (hst := (St.up (St.up (St.up (St.up (St.up (St.up hst1457 5 rfl) 5 rfl) 5 rfl) 4 rfl) 5 rfl) 5 rfl)) (f1 := f1452) (hf := hy1458)) ?_
      rintro _ w1458 ⟨z1458, rfl, hz1458, hst1458⟩
      refine ⟨_, rfl, ?_⟩
      replace f1 := f1.mono hz1458; replace f1452 := f1452.mono hz1458; replace f1454 := f1454.mono hz1458; replace f1009 := f1009.mono hz1458
      replace hy1457_0 := hy1457_0.trans hz1458
      replace hy1457_1 := hy1457_1.trans hz1458
      replace hz1457 := hz1457.trans hz1458
      refine Ops.on rfl ?_
      refine Ops.ex (Ex.not rfl) rfl rfl rfl ?_
      refine Ops.ex (Ex.pickT rfl rfl) rfl rfl rfl ?_
      refine Ops.nil ?_
      refine Run.cond rfl (fun hc => ?_) (fun hc => ?_)
      · replace hf := ifFb (bn_T hc) hf
        refine Run.skip ?_
        refine Run.seq ?_
        refine Run.block ?_
        have hm1461 := Le.refl z1458
        refine Run.drawH [([], fun w => ∃ ζ Y, Le z1458 ζ ∧ Ht w0 (frz ζ :: (orow 24 4 (.slice A1009 l1009.length c1009) l1009.length d1009) :: (blk g2 [.slice none 0 0, .slice none 0 0, vi 0] 29) :: Y) w), ([3, 4, 5, 7], fun w => ∃ ζ Y, Le z1458 ζ ∧ Ht w0 (frz ζ :: (blk g4 [.slice A1452 l1452.length c1452, vb b1453] 97) :: Y) w), ([5, 7], fun w => ∃ ζ Y, Le z1458 ζ ∧ Ht w0 (frz ζ :: (orow 9 1 (.slice A1454 l1454.length c1454) l1454.length d1454) :: Y) w), ([7], fun w => ∃ ζ Y, Le z1458 ζ ∧ Ht w0 (frz ζ :: (blk g11 [.slice A1009 l1009.length c1009, .slice A1454 l1454.length c1454, vi y7.1] 29) :: Y) w)] (by kernel_rfl) hst1458 (fun w1460 hst1460 => ?_)
        have hS0 := (⟨_, _, (Le.refl _), (St.up (St.up (St.up hst1460 5 rfl) 4 rfl) 2 rfl)⟩ : (fun w => ∃ ζ Y, Le z1458 ζ ∧ Ht w0 (frz ζ :: (orow 24 4 (.slice A1009 l1009.length c1009) l1009.length d1009) :: (blk g2 [.slice none 0 0, .slice none 0 0, vi 0] 29) :: Y) w) _)
        have hS1 := (⟨_, _, (Le.refl _), (St.up (St.up hst1460 1 rfl) 1 rfl)⟩ : (fun w => ∃ ζ Y, Le z1458 ζ ∧ Ht w0 (frz ζ :: (blk g4 [.slice A1452 l1452.length c1452, vb b1453] 97) :: Y) w) _)
        have hS2 := (⟨_, _, (Le.refl _), (St.up (St.up hst1460 2 rfl) 1 rfl)⟩ : (fun w => ∃ ζ Y, Le z1458 ζ ∧ Ht w0 (frz ζ :: (orow 9 1 (.slice A1454 l1454.length c1454) l1454.length d1454) :: Y) w) _)
        have hS3 := (⟨_, _, (Le.refl _), (St.up (St.up hst1460 4 rfl) 1 rfl)⟩ : (fun w => ∃ ζ Y, Le z1458 ζ ∧ Ht w0 (frz ζ :: (blk g11 [.slice A1009 l1009.length c1009, .slice A1454 l1454.length c1454, vi y7.1] 29) :: Y) w) _)
        refine Any.takeE 0 rfl rfl rfl rfl (by kernel_rfl) (fun _ _ _ _ _ h => h) ((Ex.fieldAddr rfl Try.underlying29 rfl sz27).s) ?_
        refine Any.take 3 1 rfl rfl rfl rfl rfl (by kernel_rfl) (fun _ _ _ _ _ h => h) (ExS.load rfl Try.underlying27 rfl (fun w hS => by obtain ⟨_, _, _, hs⟩ := hS; exact hs.cell (i := 1) rfl rfl)) hS3 ?_
        refine Any.takeE 2 rfl rfl rfl rfl (by kernel_rfl) (fun _ _ _ _ _ h => h) ((Ex.move rfl).s) ?_
        obtain ⟨y1462, hy1462, hf⟩ := bnd hf
        refine Any.one 3 (by kernel_rfl) rfl rfl (One.of_ops rfl ?_)
        refine Ops.call rfl rfl Try.func41 (by kernel_rfl) (by kernel_rfl) rfl (go_pack_Reader_Text.walk (p0 := (⟨l1452, b1453⟩ : packReader)) (hst := hst1460) (f1 := f1452) (hf := hy1462)) ?_
        rintro _ w1462 ⟨z1462, A1464, c1464, rfl, hz1462, f1464, hst1462⟩
        refine ⟨_, rfl, Ops.stop ?_⟩
        replace f1 := f1.mono hz1462; replace f1454 := f1454.mono hz1462; replace f1009 := f1009.mono hz1462
        replace hy1457_0 := hy1457_0.trans hz1462
        replace hy1457_1 := hy1457_1.trans hz1462
        replace hz1457 := hz1457.trans hz1462
        replace hm1461 := hm1461.trans hz1462
        have hS0 := (⟨_, _, hm1461, (St.up (St.up (St.up hst1462 5 rfl) 4 rfl) 2 rfl)⟩ : (fun w => ∃ ζ Y, Le z1458 ζ ∧ Ht w0 (frz ζ :: (orow 24 4 (.slice A1009 l1009.length c1009) l1009.length d1009) :: (blk g2 [.slice none 0 0, .slice none 0 0, vi 0] 29) :: Y) w) _)
        have hS2 := (⟨_, _, hm1461, (St.up (St.up hst1462 2 rfl) 1 rfl)⟩ : (fun w => ∃ ζ Y, Le z1458 ζ ∧ Ht w0 (frz ζ :: (orow 9 1 (.slice A1454 l1454.length c1454) l1454.length d1454) :: Y) w) _)
        have hS3 := (⟨_, _, hm1461, (St.up (St.up hst1462 4 rfl) 1 rfl)⟩ : (fun w => ∃ ζ Y, Le z1458 ζ ∧ Ht w0 (frz ζ :: (blk g11 [.slice A1009 l1009.length c1009, .slice A1454 l1454.length c1454, vi y7.1] 29) :: Y) w) _)
        refine ⟨⟨.inr (fun _ => hS0), .inl (by decide), .inr (fun _ => hS2), .inr (fun _ => hS3), trivial⟩, ?_⟩
        refine Any.one 4 (by kernel_rfl) rfl rfl (One.of_ops rfl ?_)
        refine Ops.sliceF [vs y1462.1] hst1462 rfl Try.underlying27 sz9 zr9 rfl rfl (by kernel_rfl) rfl (by simp [Value.oneCell']) rfl (fun A1466 w1466 hst1466 => Ops.stop ?_)
        have f1466 : Cs tS z1462 [vs y1462.1] [y1462.1] := (Cs.cons (c := [vs y1462.1]) rfl (Cs.nil _ _))
        have hS0 := (⟨_, _, hm1461, (St.up (St.up (St.up hst1466 6 rfl) 5 rfl) 2 rfl)⟩ : (fun w => ∃ ζ Y, Le z1458 ζ ∧ Ht w0 (frz ζ :: (orow 24 4 (.slice A1009 l1009.length c1009) l1009.length d1009) :: (blk g2 [.slice none 0 0, .slice none 0 0, vi 0] 29) :: Y) w) _)
        have hS2 := (⟨_, _, hm1461, (St.up (St.up hst1466 3 rfl) 1 rfl)⟩ : (fun w => ∃ ζ Y, Le z1458 ζ ∧ Ht w0 (frz ζ :: (orow 9 1 (.slice A1454 l1454.length c1454) l1454.length d1454) :: Y) w) _)
        have hS3 := (⟨_, _, hm1461, (St.up (St.up hst1466 5 rfl) 1 rfl)⟩ : (fun w => ∃ ζ Y, Le z1458 ζ ∧ Ht w0 (frz ζ :: (blk g11 [.slice A1009 l1009.length c1009, .slice A1454 l1454.length c1454, vi y7.1] 29) :: Y) w) _)
        refine ⟨⟨.inr (fun _ => hS0), .inl (by decide), .inr (fun _ => hS2), .inr (fun _ => hS3), trivial⟩, ?_⟩
        obtain ⟨l1467, hy1467, hf⟩ := bnd hf
        refine Any.one 5 (by kernel_rfl) rfl rfl (One.of_ops rfl ?_)
        refine Ops.app 3 hst1466 rfl f1454 rfl (own_slh f1466 rfl (hst1466.get (i := 1) rfl)) rfl hy1467 rfl rfl rfl rfl Try.underlying27 inf9 rfl (by decide) (by decide) rfl (fun A1467 c1467 d1467 w1467 f1467 hst1467 => Ops.stop ?_)
        have hS0 := (⟨_, _, hm1461, (St.up (St.up (St.up hst1467 6 rfl) 5 rfl) 2 rfl)⟩ : (fun w => ∃ ζ Y, Le z1458 ζ ∧ Ht w0 (frz ζ :: (orow 24 4 (.slice A1009 l1009.length c1009) l1009.length d1009) :: (blk g2 [.slice none 0 0, .slice none 0 0, vi 0] 29) :: Y) w) _)
        have hS3 := (⟨_, _, hm1461, (St.up (St.up hst1467 5 rfl) 1 rfl)⟩ : (fun w => ∃ ζ Y, Le z1458 ζ ∧ Ht w0 (frz ζ :: (blk g11 [.slice A1009 l1009.length c1009, .slice A1454 l1454.length c1454, vi y7.1] 29) :: Y) w) _)
        refine ⟨⟨.inr (fun _ => hS0), .inl (by decide), .inl (by decide), .inr (fun _ => hS3), trivial⟩, ?_⟩
        refine Any.takeE 6 rfl rfl rfl rfl (by kernel_rfl) (fun _ _ _ _ _ h => h) ((Ex.fieldAddr rfl Try.underlying29 rfl sz27).s) ?_
        refine Any.one 7 (by kernel_rfl) rfl rfl (One.of_ops rfl ?_)
        refine Ops.store 5 [.slice A1467 l1467.length c1467] hst1467 rfl rfl rfl rfl sz27 rfl (by simp [Value.oneCell']) (by simp) (fun w1468 hst1468 => Ops.stop ?_)
        have hS0 := (⟨_, _, hm1461, (St.up (St.up (St.up hst1468 6 rfl) 5 rfl) 2 rfl)⟩ : (fun w => ∃ ζ Y, Le z1458 ζ ∧ Ht w0 (frz ζ :: (orow 24 4 (.slice A1009 l1009.length c1009) l1009.length d1009) :: (blk g2 [.slice none 0 0, .slice none 0 0, vi 0] 29) :: Y) w) _)
        refine ⟨⟨.inr (fun _ => hS0), .inl (by decide), .inl (by decide), .inl (by decide), trivial⟩, ?_⟩
        refine Any.done (by kernel_rfl) ?_
        refine Run.endBlk ?_
        refine Run.region ?_
        refine Ops.ex (Ex.move rfl) rfl rfl rfl ?_
        refine Ops.ex (Ex.sub rfl rfl) rfl rfl rfl ?_
        refine Ops.ex (Ex.assign rfl) rfl rfl rfl ?_
        refine Ops.nil ?_
        exact Run.sub (by exact subB_spec ⟨rfl, rfl, rfl, rfl, rfl, trivial⟩) (Run.stop ⟨mb1292', Nat.lt_succ_self _, wr (x1451 - 1), y1462.2.b_, y1462.2.bad_, l1467, A1464, c1464, A1467, c1467, d1467, z1462, (hnxb1292 _).symm.trans hf, rfl, hz1457, hy1457_0, hy1457_1, f1464, f1467, (St.up (St.up (St.up (St.up (St.up (St.up (St.forget hst1468 1) 5 rfl) 5 rfl) 5 rfl) 4 rfl) 5 rfl) 5 rfl)⟩)
      · replace hf := ifTb (bn_F hc) hf
        refine Run.exit _ rfl ?_
        refine Run.seq ?_
        refine Run.seq ?_
        have hm1482 := Le.refl z1458
        apply Run.jn (fun e' w' => ∃ (l1484 : List apiRef) (l1485 : List Str) (b1486 : Bool) (A1484 : Option Addr) (c1484 : Nat) (A1485 : Option Addr) (c1485 : Nat) (z1483 : Zp), go_edits_Read.j3 y7 l1484 l1485 b1486 = some r ∧ e' = [(2, .pointer (some ⟨g2, 0, none⟩)), (5, .pointer (some ⟨g11, 0, none⟩)), (72, vb b1486)] ∧ Le z1458 z1483 ∧ Le z0 z1483 ∧ Le z13 z1483 ∧ Le z1288 z1483 ∧ Sl tapiRef z1483 A1484 c1484 l1484 ∧ Sl tS z1483 A1485 c1485 l1485 ∧ Ht w0 (frz z1483 :: (blk g11 [.slice A1484 l1484.length c1484, .slice A1485 l1485.length c1485, vi y7.1] 29) :: (blk g2 [.slice none 0 0, .slice none 0 0, vi 0] 29) :: X) w')
        · intro hj1469
          refine Run.drawH [([], fun w => ∃ ζ Y, Le z1458 ζ ∧ Ht w0 (frz ζ :: (blk g11 [.slice A1009 l1009.length c1009, .slice A1454 l1454.length c1454, vi y7.1] 29) :: (blk g2 [.slice none 0 0, .slice none 0 0, vi 0] 29) :: Y) w), ([1, 5, 6, 8], fun w => ∃ ζ Y, Le z1458 ζ ∧ Ht w0 (frz ζ :: (blk g4 [.slice A1452 l1452.length c1452, vb b1453] 97) :: Y) w), ([5, 6, 8], fun w => ∃ ζ Y, Le z1458 ζ ∧ Ht w0 (frz ζ :: (orow 9 1 (.slice A1454 l1454.length c1454) l1454.length d1454) :: Y) w), ([5, 6, 8], fun w => ∃ ζ Y, Le z1458 ζ ∧ Ht w0 (frz ζ :: (orow 24 4 (.slice A1009 l1009.length c1009) l1009.length d1009) :: Y) w)] (by kernel_rfl) hst1458 (fun w1487 hst1487 => ?_)
          have hS0 := (⟨_, _, (Le.refl _), (St.up (St.up (St.up hst1487 5 rfl) 5 rfl) 2 rfl)⟩ : (fun w => ∃ ζ Y, Le z1458 ζ ∧ Ht w0 (frz ζ :: (blk g11 [.slice A1009 l1009.length c1009, .slice A1454 l1454.length c1454, vi y7.1] 29) :: (blk g2 [.slice none 0 0, .slice none 0 0, vi 0] 29) :: Y) w) _)
          have hS1 := (⟨_, _, (Le.refl _), (St.up (St.up hst1487 1 rfl) 1 rfl)⟩ : (fun w => ∃ ζ Y, Le z1458 ζ ∧ Ht w0 (frz ζ :: (blk g4 [.slice A1452 l1452.length c1452, vb b1453] 97) :: Y) w) _)
          have hS2 := (⟨_, _, (Le.refl _), (St.up (St.up hst1487 2 rfl) 1 rfl)⟩ : (fun w => ∃ ζ Y, Le z1458 ζ ∧ Ht w0 (frz ζ :: (orow 9 1 (.slice A1454 l1454.length c1454) l1454.length d1454) :: Y) w) _)
          have hS3 := (⟨_, _, (Le.refl _), (St.up (St.up hst1487 3 rfl) 1 rfl)⟩ : (fun w => ∃ ζ Y, Le z1458 ζ ∧ Ht w0 (frz ζ :: (orow 24 4 (.slice A1009 l1009.length c1009) l1009.length d1009) :: Y) w) _)
          refine Any.takeE 0 rfl rfl rfl rfl (by kernel_rfl) (fun _ _ _ _ _ h => h) ((Ex.move rfl).s) ?_
          obtain ⟨y1488, hy1488, hf⟩ := bnd hf
          refine Any.one 1 (by kernel_rfl) rfl rfl (One.of_ops rfl ?_)
          refine Ops.call rfl rfl Try.func43 (by kernel_rfl) (by kernel_rfl) rfl (go_pack_Reader_Done.walk (p0 := (⟨l1452, b1453⟩ : packReader)) (hst := hst1487) (f1 := f1452) (hf := hy1488)) ?_
          rintro _ w1488 ⟨z1488, rfl, hz1488, hst1488⟩
          refine ⟨_, rfl, Ops.stop ?_⟩
          replace f1 := f1.mono hz1488; replace f1452 := f1452.mono hz1488; replace f1454 := f1454.mono hz1488; replace f1009 := f1009.mono hz1488
          replace hy1457_0 := hy1457_0.trans hz1488
          replace hy1457_1 := hy1457_1.trans hz1488
          replace hz1457 := hz1457.trans hz1488
          replace hm1482 := hm1482.trans hz1488
          have hS0 := (⟨_, _, hm1482, (St.up (St.up (St.up hst1488 5 rfl) 5 rfl) 2 rfl)⟩ : (fun w => ∃ ζ Y, Le z1458 ζ ∧ Ht w0 (frz ζ :: (blk g11 [.slice A1009 l1009.length c1009, .slice A1454 l1454.length c1454, vi y7.1] 29) :: (blk g2 [.slice none 0 0, .slice none 0 0, vi 0] 29) :: Y) w) _)
          have hS2 := (⟨_, _, hm1482, (St.up (St.up hst1488 2 rfl) 1 rfl)⟩ : (fun w => ∃ ζ Y, Le z1458 ζ ∧ Ht w0 (frz ζ :: (orow 9 1 (.slice A1454 l1454.length c1454) l1454.length d1454) :: Y) w) _)
          have hS3 := (⟨_, _, hm1482, (St.up (St.up hst1488 3 rfl) 1 rfl)⟩ : (fun w => ∃ ζ Y, Le z1458 ζ ∧ Ht w0 (frz ζ :: (orow 24 4 (.slice A1009 l1009.length c1009) l1009.length d1009) :: Y) w) _)
          refine ⟨⟨.inr (fun _ => hS0), .inl (by decide), .inr (fun _ => hS2), .inr (fun _ => hS3), trivial⟩, ?_⟩
          refine Any.takeE 2 rfl rfl rfl rfl (by kernel_rfl) (fun _ _ _ _ _ h => h) ((Ex.not rfl).s) ?_
          refine Any.takeE 3 rfl rfl rfl rfl (by kernel_rfl) (fun _ _ _ _ _ h => h) ((Ex.move rfl).s) ?_
          refine Any.case 65 rfl (fun hc => ?_) (fun hc => ?_)
          · replace hf := ifFb (bn_T hc) hf
            refine Any.pass 4 rfl rfl rfl rfl (by kernel_rfl) (fun _ _ _ _ _ h => h) ?_
            refine Any.pass 5 rfl rfl rfl rfl (by kernel_rfl) (fun _ _ _ _ _ h => h) ?_
            refine Any.pass 6 rfl rfl rfl rfl (by kernel_rfl) (fun _ _ _ _ _ h => h) ?_
            refine Any.pass 7 rfl rfl rfl rfl (by kernel_rfl) (fun _ _ _ _ _ h => h) ?_
            refine Any.pass 8 rfl rfl rfl rfl (by kernel_rfl) (fun _ _ _ _ _ h => h) ?_
            refine Any.pass 9 rfl rfl rfl rfl (by kernel_rfl) (fun _ _ _ _ _ h => h) ?_
            refine Any.takeE 10 rfl rfl rfl rfl (by kernel_rfl) (fun _ _ _ _ _ h => h) ((Ex.pickT rfl rfl).s) ?_
            refine Any.done (by kernel_rfl) ?_
            obtain ⟨z1490, hz1490, f1490, hst1490⟩ := St.freeze (τ := tapiRef) (xs := l1009) (St.up (St.up (St.up (St.up (St.up (St.up hst1488 5 rfl) 5 rfl) 4 rfl) 4 rfl) 5 rfl) 5 rfl) f1009 rfl
            replace f1 := f1.mono hz1490; replace f1452 := f1452.mono hz1490; replace f1454 := f1454.mono hz1490
            replace hy1457_0 := hy1457_0.trans hz1490
            replace hy1457_1 := hy1457_1.trans hz1490
            replace hz1457 := hz1457.trans hz1490
            replace hm1482 := hm1482.trans hz1490
            obtain ⟨z1491, hz1491, f1491, hst1491⟩ := St.freeze (τ := tS) (xs := l1454) (St.up (St.up (St.up (St.up (St.up hst1490 4 rfl) 4 rfl) 3 rfl) 4 rfl) 4 rfl) f1454 rfl
            replace f1 := f1.mono hz1491; replace f1452 := f1452.mono hz1491; replace f1490 := f1490.mono hz1491
            replace hy1457_0 := hy1457_0.trans hz1491
            replace hy1457_1 := hy1457_1.trans hz1491
            replace hz1457 := hz1457.trans hz1491
            replace hm1482 := hm1482.trans hz1491
            exact Run.sub (by exact subB_spec ⟨rfl, rfl, rfl, trivial⟩) (hj1469 _ _ ⟨l1009, l1454, true, A1009, c1009, A1454, c1454, z1491, hf, rfl, hm1482, hy1457_0, hy1457_1, hz1457, f1490, f1491, (St.forget hst1491 1)⟩)
          · replace hf := ifTb (bn_F hc) hf
            refine Any.take 0 4 rfl rfl rfl rfl rfl (by kernel_rfl) (fun _ _ _ _ _ h => h) (ExS.g (ExS.loadAgg [.slice A1009 l1009.length c1009, .slice A1454 l1454.length c1454, vi y7.1] rfl Try.underlying29 rfl sz29 rfl (fun w hS => by obtain ⟨_, _, _, hs⟩ := hS; exact hs.cells (i := 1) rfl 0 3))) hS0 ?_
            refine Any.takeE 7 rfl rfl rfl rfl (by kernel_rfl) (fun _ _ _ _ _ h => h) (ExS.g ((Ex.move rfl).s)) ?_
            refine Any.all [5, 8] (by kernel_rfl) rfl (fun i hi => ?_)
            simp only [List.mem_cons, List.not_mem_nil, or_false] at hi
            rcases hi with rfl | rfl
            · skip
              obtain ⟨z1493, hz1493, f1493, hst1493⟩ := St.freeze (τ := tapiRef) (xs := l1009) (St.up (St.up (St.up (St.up (St.up (St.up hst1488 5 rfl) 5 rfl) 4 rfl) 4 rfl) 5 rfl) 5 rfl) f1009 rfl
              replace f1 := f1.mono hz1493; replace f1452 := f1452.mono hz1493; replace f1454 := f1454.mono hz1493
              replace hy1457_0 := hy1457_0.trans hz1493
              replace hy1457_1 := hy1457_1.trans hz1493
              replace hz1457 := hz1457.trans hz1493
              replace hm1482 := hm1482.trans hz1493
              obtain ⟨z1494, hz1494, f1494, hst1494⟩ := St.freeze (τ := tS) (xs := l1454) (St.up (St.up (St.up (St.up (St.up hst1493 4 rfl) 4 rfl) 3 rfl) 4 rfl) 4 rfl) f1454 rfl
              replace f1 := f1.mono hz1494; replace f1493 := f1493.mono hz1494; replace f1452 := f1452.mono hz1494
              replace hy1457_0 := hy1457_0.trans hz1494
              replace hy1457_1 := hy1457_1.trans hz1494
              replace hz1457 := hz1457.trans hz1494
              replace hm1482 := hm1482.trans hz1494
              obtain ⟨y1492, hy1492, hf⟩ := bnd hf
              refine ⟨_, rfl, rfl, One.g <| One.of_ops rfl ?_⟩
              refine Ops.call rfl rfl Try.func18 (by kernel_rfl) (by kernel_rfl) rfl (go_edits_Bytes.walk (p0 := (⟨l1009, l1454, y7.1⟩ : editsEdit)) (hst := hst1494) (f1 := f1493) (f2 := f1494) (hf := hy1492)) ?_
              rintro _ w1492 ⟨z1492, A1495, c1495, rfl, hz1492, f1495, hst1492⟩
              refine ⟨_, rfl, Ops.stop ?_⟩
              replace f1 := f1.mono hz1492; replace f1493 := f1493.mono hz1492; replace f1494 := f1494.mono hz1492; replace f1452 := f1452.mono hz1492
              replace hy1457_0 := hy1457_0.trans hz1492
              replace hy1457_1 := hy1457_1.trans hz1492
              replace hz1457 := hz1457.trans hz1492
              replace hm1482 := hm1482.trans hz1492
              have hS0 := (⟨_, _, hm1482, (St.up (St.up (St.up hst1492 3 rfl) 3 rfl) 2 rfl)⟩ : (fun w => ∃ ζ Y, Le z1458 ζ ∧ Ht w0 (frz ζ :: (blk g11 [.slice A1009 l1009.length c1009, .slice A1454 l1454.length c1454, vi y7.1] 29) :: (blk g2 [.slice none 0 0, .slice none 0 0, vi 0] 29) :: Y) w) _)
              refine ⟨⟨.inr (fun _ => hS0), .inl (by decide), .inl (by decide), .inl (by decide), trivial⟩, ?_⟩
              refine Any.all [6, 8] (by kernel_rfl) rfl (fun i hi => ?_)
              simp only [List.mem_cons, List.not_mem_nil, or_false] at hi
              rcases hi with rfl | rfl
              · skip
                refine ⟨_, rfl, rfl, One.g <| One.of_ops rfl ?_⟩
                refine Ops.str8 (f1495.at_ hst1492) rfl Try.underlying30 Try.underlying5 Try.underlying9 rfl (Ops.stop ?_)
                have hS0 := (⟨_, _, hm1482, (St.up (St.up (St.up hst1492 3 rfl) 3 rfl) 2 rfl)⟩ : (fun w => ∃ ζ Y, Le z1458 ζ ∧ Ht w0 (frz ζ :: (blk g11 [.slice A1009 l1009.length c1009, .slice A1454 l1454.length c1454, vi y7.1] 29) :: (blk g2 [.slice none 0 0, .slice none 0 0, vi 0] 29) :: Y) w) _)
                refine ⟨⟨.inr (fun _ => hS0), .inl (by decide), .inl (by decide), .inl (by decide), trivial⟩, ?_⟩
                refine Any.one 8 (by kernel_rfl) rfl rfl (One.g <| One.of_ops rfl ?_)
                refine Ops.str8 (f1.at_ hst1492) rfl Try.underlying30 Try.underlying5 Try.underlying9 rfl (Ops.stop ?_)
                have hS0 := (⟨_, _, hm1482, (St.up (St.up (St.up hst1492 3 rfl) 3 rfl) 2 rfl)⟩ : (fun w => ∃ ζ Y, Le z1458 ζ ∧ Ht w0 (frz ζ :: (blk g11 [.slice A1009 l1009.length c1009, .slice A1454 l1454.length c1454, vi y7.1] 29) :: (blk g2 [.slice none 0 0, .slice none 0 0, vi 0] 29) :: Y) w) _)
                refine ⟨⟨.inr (fun _ => hS0), .inl (by decide), .inl (by decide), .inl (by decide), trivial⟩, ?_⟩
                refine Any.takeE 9 rfl rfl rfl rfl (by kernel_rfl) (fun _ _ _ _ _ h => h) (ExS.g ((Ex.neqT rfl rfl).s)) ?_
                refine Any.takeE 10 rfl rfl rfl rfl (by kernel_rfl) (fun _ _ _ _ _ h => h) ((Ex.pickF rfl rfl).s) ?_
                refine Any.done (by kernel_rfl) ?_
                exact Run.sub (by exact subB_spec ⟨rfl, rfl, rfl, trivial⟩) (hj1469 _ _ ⟨l1009, l1454, !(decide (y1492 = p0)), A1009, c1009, A1454, c1454, z1492, hf, rfl, hm1482, hy1457_0, hy1457_1, hz1457, f1493, f1494, (St.forget hst1492 1)⟩)
              · skip
                refine ⟨_, rfl, rfl, One.g <| One.of_ops rfl ?_⟩
                refine Ops.str8 (f1.at_ hst1492) rfl Try.underlying30 Try.underlying5 Try.underlying9 rfl (Ops.stop ?_)
                have hS0 := (⟨_, _, hm1482, (St.up (St.up (St.up hst1492 3 rfl) 3 rfl) 2 rfl)⟩ : (fun w => ∃ ζ Y, Le z1458 ζ ∧ Ht w0 (frz ζ :: (blk g11 [.slice A1009 l1009.length c1009, .slice A1454 l1454.length c1454, vi y7.1] 29) :: (blk g2 [.slice none 0 0, .slice none 0 0, vi 0] 29) :: Y) w) _)
                refine ⟨⟨.inr (fun _ => hS0), .inl (by decide), .inl (by decide), .inl (by decide), trivial⟩, ?_⟩
                refine Any.one 6 (by kernel_rfl) rfl rfl (One.g <| One.of_ops rfl ?_)
                refine Ops.str8 (f1495.at_ hst1492) rfl Try.underlying30 Try.underlying5 Try.underlying9 rfl (Ops.stop ?_)
                have hS0 := (⟨_, _, hm1482, (St.up (St.up (St.up hst1492 3 rfl) 3 rfl) 2 rfl)⟩ : (fun w => ∃ ζ Y, Le z1458 ζ ∧ Ht w0 (frz ζ :: (blk g11 [.slice A1009 l1009.length c1009, .slice A1454 l1454.length c1454, vi y7.1] 29) :: (blk g2 [.slice none 0 0, .slice none 0 0, vi 0] 29) :: Y) w) _)
                refine ⟨⟨.inr (fun _ => hS0), .inl (by decide), .inl (by decide), .inl (by decide), trivial⟩, ?_⟩
                refine Any.takeE 9 rfl rfl rfl rfl (by kernel_rfl) (fun _ _ _ _ _ h => h) (ExS.g ((Ex.neqT rfl rfl).s)) ?_
                refine Any.takeE 10 rfl rfl rfl rfl (by kernel_rfl) (fun _ _ _ _ _ h => h) ((Ex.pickF rfl rfl).s) ?_
                refine Any.done (by kernel_rfl) ?_
                exact Run.sub (by exact subB_spec ⟨rfl, rfl, rfl, trivial⟩) (hj1469 _ _ ⟨l1009, l1454, !(decide (y1492 = p0)), A1009, c1009, A1454, c1454, z1492, hf, rfl, hm1482, hy1457_0, hy1457_1, hz1457, f1493, f1494, (St.forget hst1492 1)⟩)
            · skip
              refine ⟨_, rfl, rfl, One.g <| One.of_ops rfl ?_⟩
              refine Ops.str8 (f1.at_ hst1488) rfl Try.underlying30 Try.underlying5 Try.underlying9 rfl (Ops.stop ?_)
              have hS0 := (⟨_, _, hm1482, (St.up (St.up (St.up hst1488 5 rfl) 5 rfl) 2 rfl)⟩ : (fun w => ∃ ζ Y, Le z1458 ζ ∧ Ht w0 (frz ζ :: (blk g11 [.slice A1009 l1009.length c1009, .slice A1454 l1454.length c1454, vi y7.1] 29) :: (blk g2 [.slice none 0 0, .slice none 0 0, vi 0] 29) :: Y) w) _)
              refine ⟨⟨.inr (fun _ => hS0), .inl (by decide), .inl (by decide), .inl (by decide), trivial⟩, ?_⟩
              obtain ⟨z1497, hz1497, f1497, hst1497⟩ := St.freeze (τ := tapiRef) (xs := l1009) (St.up (St.up (St.up (St.up (St.up (St.up hst1488 5 rfl) 5 rfl) 4 rfl) 4 rfl) 5 rfl) 5 rfl) f1009 rfl
              replace f1 := f1.mono hz1497; replace f1452 := f1452.mono hz1497; replace f1454 := f1454.mono hz1497
              replace hy1457_0 := hy1457_0.trans hz1497
              replace hy1457_1 := hy1457_1.trans hz1497
              replace hz1457 := hz1457.trans hz1497
              replace hm1482 := hm1482.trans hz1497
              obtain ⟨z1498, hz1498, f1498, hst1498⟩ := St.freeze (τ := tS) (xs := l1454) (St.up (St.up (St.up (St.up (St.up hst1497 4 rfl) 4 rfl) 3 rfl) 4 rfl) 4 rfl) f1454 rfl
              replace f1 := f1.mono hz1498; replace f1497 := f1497.mono hz1498; replace f1452 := f1452.mono hz1498
              replace hy1457_0 := hy1457_0.trans hz1498
              replace hy1457_1 := hy1457_1.trans hz1498
              replace hz1457 := hz1457.trans hz1498
              replace hm1482 := hm1482.trans hz1498
              obtain ⟨y1496, hy1496, hf⟩ := bnd hf
              refine Any.one 5 (by kernel_rfl) rfl rfl (One.g <| One.of_ops rfl ?_)
              refine Ops.call rfl rfl Try.func18 (by kernel_rfl) (by kernel_rfl) rfl (go_edits_Bytes.walk (p0 := (⟨l1009, l1454, y7.1⟩ : editsEdit)) (hst := hst1498) (f1 := f1497) (f2 := f1498) (hf := hy1496)) ?_
              rintro _ w1496 ⟨z1496, A1499, c1499, rfl, hz1496, f1499, hst1496⟩
              refine ⟨_, rfl, Ops.stop ?_⟩
              replace f1 := f1.mono hz1496; replace f1497 := f1497.mono hz1496; replace f1498 := f1498.mono hz1496; replace f1452 := f1452.mono hz1496
              replace hy1457_0 := hy1457_0.trans hz1496
              replace hy1457_1 := hy1457_1.trans hz1496
              replace hz1457 := hz1457.trans hz1496
              replace hm1482 := hm1482.trans hz1496
              have hS0 := (⟨_, _, hm1482, (St.up (St.up (St.up hst1496 3 rfl) 3 rfl) 2 rfl)⟩ : (fun w => ∃ ζ Y, Le z1458 ζ ∧ Ht w0 (frz ζ :: (blk g11 [.slice A1009 l1009.length c1009, .slice A1454 l1454.length c1454, vi y7.1] 29) :: (blk g2 [.slice none 0 0, .slice none 0 0, vi 0] 29) :: Y) w) _)
              refine ⟨⟨.inr (fun _ => hS0), .inl (by decide), .inl (by decide), .inl (by decide), trivial⟩, ?_⟩
              refine Any.one 6 (by kernel_rfl) rfl rfl (One.g <| One.of_ops rfl ?_)
              refine Ops.str8 (f1499.at_ hst1496) rfl Try.underlying30 Try.underlying5 Try.underlying9 rfl (Ops.stop ?_)
              have hS0 := (⟨_, _, hm1482, (St.up (St.up (St.up hst1496 3 rfl) 3 rfl) 2 rfl)⟩ : (fun w => ∃ ζ Y, Le z1458 ζ ∧ Ht w0 (frz ζ :: (blk g11 [.slice A1009 l1009.length c1009, .slice A1454 l1454.length c1454, vi y7.1] 29) :: (blk g2 [.slice none 0 0, .slice none 0 0, vi 0] 29) :: Y) w) _)
              refine ⟨⟨.inr (fun _ => hS0), .inl (by decide), .inl (by decide), .inl (by decide), trivial⟩, ?_⟩
              refine Any.takeE 9 rfl rfl rfl rfl (by kernel_rfl) (fun _ _ _ _ _ h => h) (ExS.g ((Ex.neqT rfl rfl).s)) ?_
              refine Any.takeE 10 rfl rfl rfl rfl (by kernel_rfl) (fun _ _ _ _ _ h => h) ((Ex.pickF rfl rfl).s) ?_
              refine Any.done (by kernel_rfl) ?_
              exact Run.sub (by exact subB_spec ⟨rfl, rfl, rfl, trivial⟩) (hj1469 _ _ ⟨l1009, l1454, !(decide (y1496 = p0)), A1009, c1009, A1454, c1454, z1496, hf, rfl, hm1482, hy1457_0, hy1457_1, hz1457, f1497, f1498, (St.forget hst1496 1)⟩)
        · rintro e' w1500 ⟨l1484, l1485, b1486, A1484, c1484, A1485, c1485, z1483, hf, rfl, hz1500, hy1500_0, hy1500_1, hy1500_2, f1484, f1485, hst1500⟩
          unfold go_edits_Read.j3 at hf
          refine Run.cond rfl (fun hc => ?_) (fun hc => ?_)
          · replace hf := ifTb hc hf
            refine Run.seq ?_
            refine Run.region ?_
            refine Ops.ex (Ex.build [.slice none 0 0, .slice none 0 0, vi 0] rfl Try.underlying29 zr29 (pl29 Try.underlying29) (by kernel_rfl)) rfl rfl rfl ?_
            refine Ops.store 2 [.slice none 0 0, .slice none 0 0, vi 0] hst1500 rfl rfl rfl rfl sz29 rfl (by simp [Value.oneCell']) (by simp) (fun w1501 hst1501 => ?_)
            refine Ops.ex (Ex.assign rfl) rfl rfl rfl ?_
            refine Ops.nil ?_
            obtain rfl := Option.some.inj hf
            exact Run.retV [.agg #[.slice none 0 0, .slice none 0 0, vi 0], vb false] rfl ⟨⟨_, rfl, run_loadN _ Try.underlying29 rfl sz29 rfl (hst1501.cells (i := 2) rfl 0 3)⟩, rfl, trivial⟩ ⟨z1483, none, 0, none, 0, rfl, hy1500_0, (Sl.nil _ _), (Sl.nil _ _), (St.forget (St.forget hst1501 2) 1)⟩
          · replace hf := ifFb hc hf
            refine Run.skip ?_
            refine Run.seq ?_
            refine Run.region ?_
            refine Ops.loadAgg _ rfl Try.underlying29 rfl sz29 rfl (hst1500.cells (i := 1) rfl 0 3) rfl ?_
            refine Ops.store 2 [.slice A1484 l1484.length c1484, .slice A1485 l1485.length c1485, vi y7.1] hst1500 rfl rfl rfl rfl sz29 rfl (by simp [Value.oneCell']) (by simp) (fun w1502 hst1502 => ?_)
            refine Ops.ex (Ex.assign rfl) rfl rfl rfl ?_
            refine Ops.nil ?_
            obtain rfl := Option.some.inj hf
            exact Run.retV [.agg #[.slice A1484 l1484.length c1484, .slice A1485 l1485.length c1485, vi y7.1], vb true] rfl ⟨⟨_, rfl, run_loadN _ Try.underlying29 rfl sz29 rfl (hst1502.cells (i := 2) rfl 0 3)⟩, rfl, trivial⟩ ⟨z1483, A1484, c1484, A1485, c1485, rfl, hy1500_0, f1484, f1485, (St.forget (St.forget hst1502 2) 1)⟩
    · replace hf := ifF (dec_F hc) hf
      refine Ops.off rfl rfl ?_
      refine Ops.off rfl rfl ?_
      refine Ops.off rfl rfl ?_
      refine Ops.ex (Ex.pickF rfl rfl) rfl rfl rfl ?_
      refine Ops.nil ?_
      refine Run.condF rfl rfl ?_
      refine Run.exit _ rfl ?_
      refine Run.seq ?_
      refine Run.seq ?_
      have hm1516 := Le.refl z1450
      apply Run.jn (fun e' w' => ∃ (l1518 : List apiRef) (l1519 : List Str) (b1520 : Bool) (A1518 : Option Addr) (c1518 : Nat) (A1519 : Option Addr) (c1519 : Nat) (z1517 : Zp), go_edits_Read.j4 y7 l1518 l1519 b1520 = some r ∧ e' = [(2, .pointer (some ⟨g2, 0, none⟩)), (5, .pointer (some ⟨g11, 0, none⟩)), (72, vb b1520)] ∧ Le z1450 z1517 ∧ Le z0 z1517 ∧ Le z13 z1517 ∧ Le z1288 z1517 ∧ Sl tapiRef z1517 A1518 c1518 l1518 ∧ Sl tS z1517 A1519 c1519 l1519 ∧ Ht w0 (frz z1517 :: (blk g11 [.slice A1518 l1518.length c1518, .slice A1519 l1519.length c1519, vi y7.1] 29) :: (blk g2 [.slice none 0 0, .slice none 0 0, vi 0] 29) :: X) w')
      · intro hj1503
        refine Run.drawH [([], fun w => ∃ ζ Y, Le z1450 ζ ∧ Ht w0 (frz ζ :: (blk g11 [.slice A1009 l1009.length c1009, .slice A1454 l1454.length c1454, vi y7.1] 29) :: (blk g2 [.slice none 0 0, .slice none 0 0, vi 0] 29) :: Y) w), ([1, 5, 6, 8], fun w => ∃ ζ Y, Le z1450 ζ ∧ Ht w0 (frz ζ :: (blk g4 [.slice A1452 l1452.length c1452, vb b1453] 97) :: Y) w), ([5, 6, 8], fun w => ∃ ζ Y, Le z1450 ζ ∧ Ht w0 (frz ζ :: (orow 9 1 (.slice A1454 l1454.length c1454) l1454.length d1454) :: Y) w), ([5, 6, 8], fun w => ∃ ζ Y, Le z1450 ζ ∧ Ht w0 (frz ζ :: (orow 24 4 (.slice A1009 l1009.length c1009) l1009.length d1009) :: Y) w)] (by kernel_rfl) hst1457 (fun w1521 hst1521 => ?_)
        have hS0 := (⟨_, _, (Le.refl _), (St.up (St.up (St.up hst1521 5 rfl) 5 rfl) 2 rfl)⟩ : (fun w => ∃ ζ Y, Le z1450 ζ ∧ Ht w0 (frz ζ :: (blk g11 [.slice A1009 l1009.length c1009, .slice A1454 l1454.length c1454, vi y7.1] 29) :: (blk g2 [.slice none 0 0, .slice none 0 0, vi 0] 29) :: Y) w) _)
        have hS1 := (⟨_, _, (Le.refl _), (St.up (St.up hst1521 2 rfl) 1 rfl)⟩ : (fun w => ∃ ζ Y, Le z1450 ζ ∧ Ht w0 (frz ζ :: (blk g4 [.slice A1452 l1452.length c1452, vb b1453] 97) :: Y) w) _)
        have hS2 := (⟨_, _, (Le.refl _), (St.up (St.up hst1521 1 rfl) 1 rfl)⟩ : (fun w => ∃ ζ Y, Le z1450 ζ ∧ Ht w0 (frz ζ :: (orow 9 1 (.slice A1454 l1454.length c1454) l1454.length d1454) :: Y) w) _)
        have hS3 := (⟨_, _, (Le.refl _), (St.up (St.up hst1521 3 rfl) 1 rfl)⟩ : (fun w => ∃ ζ Y, Le z1450 ζ ∧ Ht w0 (frz ζ :: (orow 24 4 (.slice A1009 l1009.length c1009) l1009.length d1009) :: Y) w) _)
        refine Any.takeE 0 rfl rfl rfl rfl (by kernel_rfl) (fun _ _ _ _ _ h => h) ((Ex.move rfl).s) ?_
        obtain ⟨y1522, hy1522, hf⟩ := bnd hf
        refine Any.one 1 (by kernel_rfl) rfl rfl (One.of_ops rfl ?_)
        refine Ops.call rfl rfl Try.func43 (by kernel_rfl) (by kernel_rfl) rfl (go_pack_Reader_Done.walk (p0 := (⟨l1452, b1453⟩ : packReader)) (hst := (St.up (St.up (St.up (St.up (St.up (St.up hst1521 5 rfl) 5 rfl) 5 rfl) 4 rfl) 5 rfl) 5 rfl)) (f1 := f1452) (hf := hy1522)) ?_
        rintro _ w1522 ⟨z1522, rfl, hz1522, hst1522⟩
        refine ⟨_, rfl, Ops.stop ?_⟩
        replace f1 := f1.mono hz1522; replace f1452 := f1452.mono hz1522; replace f1454 := f1454.mono hz1522; replace f1009 := f1009.mono hz1522
        replace hy1457_0 := hy1457_0.trans hz1522
        replace hy1457_1 := hy1457_1.trans hz1522
        replace hz1457 := hz1457.trans hz1522
        replace hm1516 := hm1516.trans hz1522
        have hS0 := (⟨_, _, hm1516, (St.up (St.up (St.up hst1522 5 rfl) 5 rfl) 2 rfl)⟩ : (fun w => ∃ ζ Y, Le z1450 ζ ∧ Ht w0 (frz ζ :: (blk g11 [.slice A1009 l1009.length c1009, .slice A1454 l1454.length c1454, vi y7.1] 29) :: (blk g2 [.slice none 0 0, .slice none 0 0, vi 0] 29) :: Y) w) _)
        have hS2 := (⟨_, _, hm1516, (St.up (St.up hst1522 2 rfl) 1 rfl)⟩ : (fun w => ∃ ζ Y, Le z1450 ζ ∧ Ht w0 (frz ζ :: (orow 9 1 (.slice A1454 l1454.length c1454) l1454.length d1454) :: Y) w) _)
        have hS3 := (⟨_, _, hm1516, (St.up (St.up hst1522 3 rfl) 1 rfl)⟩ : (fun w => ∃ ζ Y, Le z1450 ζ ∧ Ht w0 (frz ζ :: (orow 24 4 (.slice A1009 l1009.length c1009) l1009.length d1009) :: Y) w) _)
        refine ⟨⟨.inr (fun _ => hS0), .inl (by decide), .inr (fun _ => hS2), .inr (fun _ => hS3), trivial⟩, ?_⟩
        refine Any.takeE 2 rfl rfl rfl rfl (by kernel_rfl) (fun _ _ _ _ _ h => h) ((Ex.not rfl).s) ?_
        refine Any.takeE 3 rfl rfl rfl rfl (by kernel_rfl) (fun _ _ _ _ _ h => h) ((Ex.move rfl).s) ?_
        refine Any.case 65 rfl (fun hc => ?_) (fun hc => ?_)
        · replace hf := ifFb (bn_T hc) hf
          refine Any.pass 4 rfl rfl rfl rfl (by kernel_rfl) (fun _ _ _ _ _ h => h) ?_
          refine Any.pass 5 rfl rfl rfl rfl (by kernel_rfl) (fun _ _ _ _ _ h => h) ?_
          refine Any.pass 6 rfl rfl rfl rfl (by kernel_rfl) (fun _ _ _ _ _ h => h) ?_
          refine Any.pass 7 rfl rfl rfl rfl (by kernel_rfl) (fun _ _ _ _ _ h => h) ?_
          refine Any.pass 8 rfl rfl rfl rfl (by kernel_rfl) (fun _ _ _ _ _ h => h) ?_
          refine Any.pass 9 rfl rfl rfl rfl (by kernel_rfl) (fun _ _ _ _ _ h => h) ?_
          refine Any.takeE 10 rfl rfl rfl rfl (by kernel_rfl) (fun _ _ _ _ _ h => h) ((Ex.pickT rfl rfl).s) ?_
          refine Any.done (by kernel_rfl) ?_
          obtain ⟨z1524, hz1524, f1524, hst1524⟩ := St.freeze (τ := tapiRef) (xs := l1009) (St.up (St.up (St.up (St.up (St.up (St.up hst1522 5 rfl) 5 rfl) 4 rfl) 4 rfl) 5 rfl) 5 rfl) f1009 rfl
          replace f1 := f1.mono hz1524; replace f1452 := f1452.mono hz1524; replace f1454 := f1454.mono hz1524
          replace hy1457_0 := hy1457_0.trans hz1524
          replace hy1457_1 := hy1457_1.trans hz1524
          replace hz1457 := hz1457.trans hz1524
          replace hm1516 := hm1516.trans hz1524
          obtain ⟨z1525, hz1525, f1525, hst1525⟩ := St.freeze (τ := tS) (xs := l1454) (St.up (St.up (St.up (St.up (St.up hst1524 4 rfl) 4 rfl) 3 rfl) 4 rfl) 4 rfl) f1454 rfl
          replace f1 := f1.mono hz1525; replace f1452 := f1452.mono hz1525; replace f1524 := f1524.mono hz1525
          replace hy1457_0 := hy1457_0.trans hz1525
          replace hy1457_1 := hy1457_1.trans hz1525
          replace hz1457 := hz1457.trans hz1525
          replace hm1516 := hm1516.trans hz1525
          exact Run.sub (by exact subB_spec ⟨rfl, rfl, rfl, trivial⟩) (hj1503 _ _ ⟨l1009, l1454, true, A1009, c1009, A1454, c1454, z1525, hf, rfl, hm1516, hy1457_0, hy1457_1, hz1457, f1524, f1525, (St.forget hst1525 1)⟩)
        · replace hf := ifTb (bn_F hc) hf
          refine Any.take 0 4 rfl rfl rfl rfl rfl (by kernel_rfl) (fun _ _ _ _ _ h => h) (ExS.g (ExS.loadAgg [.slice A1009 l1009.length c1009, .slice A1454 l1454.length c1454, vi y7.1] rfl Try.underlying29 rfl sz29 rfl (fun w hS => by obtain ⟨_, _, _, hs⟩ := hS; exact hs.cells (i := 1) rfl 0 3))) hS0 ?_
          refine Any.takeE 7 rfl rfl rfl rfl (by kernel_rfl) (fun _ _ _ _ _ h => h) (ExS.g ((Ex.move rfl).s)) ?_
          refine Any.all [5, 8] (by kernel_rfl) rfl (fun i hi => ?_)
          simp only [List.mem_cons, List.not_mem_nil, or_false] at hi
          rcases hi with rfl | rfl
          · skip
            obtain ⟨z1527, hz1527, f1527, hst1527⟩ := St.freeze (τ := tapiRef) (xs := l1009) (St.up (St.up (St.up (St.up (St.up (St.up hst1522 5 rfl) 5 rfl) 4 rfl) 4 rfl) 5 rfl) 5 rfl) f1009 rfl
            replace f1 := f1.mono hz1527; replace f1452 := f1452.mono hz1527; replace f1454 := f1454.mono hz1527
            replace hy1457_0 := hy1457_0.trans hz1527
            replace hy1457_1 := hy1457_1.trans hz1527
            replace hz1457 := hz1457.trans hz1527
            replace hm1516 := hm1516.trans hz1527
            obtain ⟨z1528, hz1528, f1528, hst1528⟩ := St.freeze (τ := tS) (xs := l1454) (St.up (St.up (St.up (St.up (St.up hst1527 4 rfl) 4 rfl) 3 rfl) 4 rfl) 4 rfl) f1454 rfl
            replace f1 := f1.mono hz1528; replace f1527 := f1527.mono hz1528; replace f1452 := f1452.mono hz1528
            replace hy1457_0 := hy1457_0.trans hz1528
            replace hy1457_1 := hy1457_1.trans hz1528
            replace hz1457 := hz1457.trans hz1528
            replace hm1516 := hm1516.trans hz1528
            obtain ⟨y1526, hy1526, hf⟩ := bnd hf
            refine ⟨_, rfl, rfl, One.g <| One.of_ops rfl ?_⟩
            refine Ops.call rfl rfl Try.func18 (by kernel_rfl) (by kernel_rfl) rfl (go_edits_Bytes.walk (p0 := (⟨l1009, l1454, y7.1⟩ : editsEdit)) (hst := hst1528) (f1 := f1527) (f2 := f1528) (hf := hy1526)) ?_
            rintro _ w1526 ⟨z1526, A1529, c1529, rfl, hz1526, f1529, hst1526⟩
            refine ⟨_, rfl, Ops.stop ?_⟩
            replace f1 := f1.mono hz1526; replace f1527 := f1527.mono hz1526; replace f1528 := f1528.mono hz1526; replace f1452 := f1452.mono hz1526
            replace hy1457_0 := hy1457_0.trans hz1526
            replace hy1457_1 := hy1457_1.trans hz1526
            replace hz1457 := hz1457.trans hz1526
            replace hm1516 := hm1516.trans hz1526
            have hS0 := (⟨_, _, hm1516, (St.up (St.up (St.up hst1526 3 rfl) 3 rfl) 2 rfl)⟩ : (fun w => ∃ ζ Y, Le z1450 ζ ∧ Ht w0 (frz ζ :: (blk g11 [.slice A1009 l1009.length c1009, .slice A1454 l1454.length c1454, vi y7.1] 29) :: (blk g2 [.slice none 0 0, .slice none 0 0, vi 0] 29) :: Y) w) _)
            refine ⟨⟨.inr (fun _ => hS0), .inl (by decide), .inl (by decide), .inl (by decide), trivial⟩, ?_⟩
            refine Any.all [6, 8] (by kernel_rfl) rfl (fun i hi => ?_)
            simp only [List.mem_cons, List.not_mem_nil, or_false] at hi
            rcases hi with rfl | rfl
            · skip
              refine ⟨_, rfl, rfl, One.g <| One.of_ops rfl ?_⟩
              refine Ops.str8 (f1529.at_ hst1526) rfl Try.underlying30 Try.underlying5 Try.underlying9 rfl (Ops.stop ?_)
              have hS0 := (⟨_, _, hm1516, (St.up (St.up (St.up hst1526 3 rfl) 3 rfl) 2 rfl)⟩ : (fun w => ∃ ζ Y, Le z1450 ζ ∧ Ht w0 (frz ζ :: (blk g11 [.slice A1009 l1009.length c1009, .slice A1454 l1454.length c1454, vi y7.1] 29) :: (blk g2 [.slice none 0 0, .slice none 0 0, vi 0] 29) :: Y) w) _)
              refine ⟨⟨.inr (fun _ => hS0), .inl (by decide), .inl (by decide), .inl (by decide), trivial⟩, ?_⟩
              refine Any.one 8 (by kernel_rfl) rfl rfl (One.g <| One.of_ops rfl ?_)
              refine Ops.str8 (f1.at_ hst1526) rfl Try.underlying30 Try.underlying5 Try.underlying9 rfl (Ops.stop ?_)
              have hS0 := (⟨_, _, hm1516, (St.up (St.up (St.up hst1526 3 rfl) 3 rfl) 2 rfl)⟩ : (fun w => ∃ ζ Y, Le z1450 ζ ∧ Ht w0 (frz ζ :: (blk g11 [.slice A1009 l1009.length c1009, .slice A1454 l1454.length c1454, vi y7.1] 29) :: (blk g2 [.slice none 0 0, .slice none 0 0, vi 0] 29) :: Y) w) _)
              refine ⟨⟨.inr (fun _ => hS0), .inl (by decide), .inl (by decide), .inl (by decide), trivial⟩, ?_⟩
              refine Any.takeE 9 rfl rfl rfl rfl (by kernel_rfl) (fun _ _ _ _ _ h => h) (ExS.g ((Ex.neqT rfl rfl).s)) ?_
              refine Any.takeE 10 rfl rfl rfl rfl (by kernel_rfl) (fun _ _ _ _ _ h => h) ((Ex.pickF rfl rfl).s) ?_
              refine Any.done (by kernel_rfl) ?_
              exact Run.sub (by exact subB_spec ⟨rfl, rfl, rfl, trivial⟩) (hj1503 _ _ ⟨l1009, l1454, !(decide (y1526 = p0)), A1009, c1009, A1454, c1454, z1526, hf, rfl, hm1516, hy1457_0, hy1457_1, hz1457, f1527, f1528, (St.forget hst1526 1)⟩)
            · skip
              refine ⟨_, rfl, rfl, One.g <| One.of_ops rfl ?_⟩
              refine Ops.str8 (f1.at_ hst1526) rfl Try.underlying30 Try.underlying5 Try.underlying9 rfl (Ops.stop ?_)
              have hS0 := (⟨_, _, hm1516, (St.up (St.up (St.up hst1526 3 rfl) 3 rfl) 2 rfl)⟩ : (fun w => ∃ ζ Y, Le z1450 ζ ∧ Ht w0 (frz ζ :: (blk g11 [.slice A1009 l1009.length c1009, .slice A1454 l1454.length c1454, vi y7.1] 29) :: (blk g2 [.slice none 0 0, .slice none 0 0, vi 0] 29) :: Y) w) _)
              refine ⟨⟨.inr (fun _ => hS0), .inl (by decide), .inl (by decide), .inl (by decide), trivial⟩, ?_⟩
              refine Any.one 6 (by kernel_rfl) rfl rfl (One.g <| One.of_ops rfl ?_)
              refine Ops.str8 (f1529.at_ hst1526) rfl Try.underlying30 Try.underlying5 Try.underlying9 rfl (Ops.stop ?_)
              have hS0 := (⟨_, _, hm1516, (St.up (St.up (St.up hst1526 3 rfl) 3 rfl) 2 rfl)⟩ : (fun w => ∃ ζ Y, Le z1450 ζ ∧ Ht w0 (frz ζ :: (blk g11 [.slice A1009 l1009.length c1009, .slice A1454 l1454.length c1454, vi y7.1] 29) :: (blk g2 [.slice none 0 0, .slice none 0 0, vi 0] 29) :: Y) w) _)
              refine ⟨⟨.inr (fun _ => hS0), .inl (by decide), .inl (by decide), .inl (by decide), trivial⟩, ?_⟩
              refine Any.takeE 9 rfl rfl rfl rfl (by kernel_rfl) (fun _ _ _ _ _ h => h) (ExS.g ((Ex.neqT rfl rfl).s)) ?_
              refine Any.takeE 10 rfl rfl rfl rfl (by kernel_rfl) (fun _ _ _ _ _ h => h) ((Ex.pickF rfl rfl).s) ?_
              refine Any.done (by kernel_rfl) ?_
              exact Run.sub (by exact subB_spec ⟨rfl, rfl, rfl, trivial⟩) (hj1503 _ _ ⟨l1009, l1454, !(decide (y1526 = p0)), A1009, c1009, A1454, c1454, z1526, hf, rfl, hm1516, hy1457_0, hy1457_1, hz1457, f1527, f1528, (St.forget hst1526 1)⟩)
          · skip
            refine ⟨_, rfl, rfl, One.g <| One.of_ops rfl ?_⟩
            refine Ops.str8 (f1.at_ hst1522) rfl Try.underlying30 Try.underlying5 Try.underlying9 rfl (Ops.stop ?_)
            have hS0 := (⟨_, _, hm1516, (St.up (St.up (St.up hst1522 5 rfl) 5 rfl) 2 rfl)⟩ : (fun w => ∃ ζ Y, Le z1450 ζ ∧ Ht w0 (frz ζ :: (blk g11 [.slice A1009 l1009.length c1009, .slice A1454 l1454.length c1454, vi y7.1] 29) :: (blk g2 [.slice none 0 0, .slice none 0 0, vi 0] 29) :: Y) w) _)
            refine ⟨⟨.inr (fun _ => hS0), .inl (by decide), .inl (by decide), .inl (by decide), trivial⟩, ?_⟩
            obtain ⟨z1531, hz1531, f1531, hst1531⟩ := St.freeze (τ := tapiRef) (xs := l1009) (St.up (St.up (St.up (St.up (St.up (St.up hst1522 5 rfl) 5 rfl) 4 rfl) 4 rfl) 5 rfl) 5 rfl) f1009 rfl
            replace f1 := f1.mono hz1531; replace f1452 := f1452.mono hz1531; replace f1454 := f1454.mono hz1531
            replace hy1457_0 := hy1457_0.trans hz1531
            replace hy1457_1 := hy1457_1.trans hz1531
            replace hz1457 := hz1457.trans hz1531
            replace hm1516 := hm1516.trans hz1531
            obtain ⟨z1532, hz1532, f1532, hst1532⟩ := St.freeze (τ := tS) (xs := l1454) (St.up (St.up (St.up (St.up (St.up hst1531 4 rfl) 4 rfl) 3 rfl) 4 rfl) 4 rfl) f1454 rfl
            replace f1 := f1.mono hz1532; replace f1531 := f1531.mono hz1532; replace f1452 := f1452.mono hz1532
            replace hy1457_0 := hy1457_0.trans hz1532
            replace hy1457_1 := hy1457_1.trans hz1532
            replace hz1457 := hz1457.trans hz1532
            replace hm1516 := hm1516.trans hz1532
            obtain ⟨y1530, hy1530, hf⟩ := bnd hf
            refine Any.one 5 (by kernel_rfl) rfl rfl (One.g <| One.of_ops rfl ?_)
            refine Ops.call rfl rfl Try.func18 (by kernel_rfl) (by kernel_rfl) rfl (go_edits_Bytes.walk (p0 := (⟨l1009, l1454, y7.1⟩ : editsEdit)) (hst := hst1532) (f1 := f1531) (f2 := f1532) (hf := hy1530)) ?_
            rintro _ w1530 ⟨z1530, A1533, c1533, rfl, hz1530, f1533, hst1530⟩
            refine ⟨_, rfl, Ops.stop ?_⟩
            replace f1 := f1.mono hz1530; replace f1531 := f1531.mono hz1530; replace f1532 := f1532.mono hz1530; replace f1452 := f1452.mono hz1530
            replace hy1457_0 := hy1457_0.trans hz1530
            replace hy1457_1 := hy1457_1.trans hz1530
            replace hz1457 := hz1457.trans hz1530
            replace hm1516 := hm1516.trans hz1530
            have hS0 := (⟨_, _, hm1516, (St.up (St.up (St.up hst1530 3 rfl) 3 rfl) 2 rfl)⟩ : (fun w => ∃ ζ Y, Le z1450 ζ ∧ Ht w0 (frz ζ :: (blk g11 [.slice A1009 l1009.length c1009, .slice A1454 l1454.length c1454, vi y7.1] 29) :: (blk g2 [.slice none 0 0, .slice none 0 0, vi 0] 29) :: Y) w) _)
            refine ⟨⟨.inr (fun _ => hS0), .inl (by decide), .inl (by decide), .inl (by decide), trivial⟩, ?_⟩
            refine Any.one 6 (by kernel_rfl) rfl rfl (One.g <| One.of_ops rfl ?_)
            refine Ops.str8 (f1533.at_ hst1530) rfl Try.underlying30 Try.underlying5 Try.underlying9 rfl (Ops.stop ?_)
            have hS0 := (⟨_, _, hm1516, (St.up (St.up (St.up hst1530 3 rfl) 3 rfl) 2 rfl)⟩ : (fun w => ∃ ζ Y, Le z1450 ζ ∧ Ht w0 (frz ζ :: (blk g11 [.slice A1009 l1009.length c1009, .slice A1454 l1454.length c1454, vi y7.1] 29) :: (blk g2 [.slice none 0 0, .slice none 0 0, vi 0] 29) :: Y) w) _)
            refine ⟨⟨.inr (fun _ => hS0), .inl (by decide), .inl (by decide), .inl (by decide), trivial⟩, ?_⟩
            refine Any.takeE 9 rfl rfl rfl rfl (by kernel_rfl) (fun _ _ _ _ _ h => h) (ExS.g ((Ex.neqT rfl rfl).s)) ?_
            refine Any.takeE 10 rfl rfl rfl rfl (by kernel_rfl) (fun _ _ _ _ _ h => h) ((Ex.pickF rfl rfl).s) ?_
            refine Any.done (by kernel_rfl) ?_
            exact Run.sub (by exact subB_spec ⟨rfl, rfl, rfl, trivial⟩) (hj1503 _ _ ⟨l1009, l1454, !(decide (y1530 = p0)), A1009, c1009, A1454, c1454, z1530, hf, rfl, hm1516, hy1457_0, hy1457_1, hz1457, f1531, f1532, (St.forget hst1530 1)⟩)
      · rintro e' w1534 ⟨l1518, l1519, b1520, A1518, c1518, A1519, c1519, z1517, hf, rfl, hz1534, hy1534_0, hy1534_1, hy1534_2, f1518, f1519, hst1534⟩
        unfold go_edits_Read.j4 at hf
        refine Run.cond rfl (fun hc => ?_) (fun hc => ?_)
        · replace hf := ifTb hc hf
          refine Run.seq ?_
          refine Run.region ?_
          refine Ops.ex (Ex.build [.slice none 0 0, .slice none 0 0, vi 0] rfl Try.underlying29 zr29 (pl29 Try.underlying29) (by kernel_rfl)) rfl rfl rfl ?_
          refine Ops.store 2 [.slice none 0 0, .slice none 0 0, vi 0] hst1534 rfl rfl rfl rfl sz29 rfl (by simp [Value.oneCell']) (by simp) (fun w1535 hst1535 => ?_)
          refine Ops.ex (Ex.assign rfl) rfl rfl rfl ?_
          refine Ops.nil ?_
          obtain rfl := Option.some.inj hf
          exact Run.retV [.agg #[.slice none 0 0, .slice none 0 0, vi 0], vb false] rfl ⟨⟨_, rfl, run_loadN _ Try.underlying29 rfl sz29 rfl (hst1535.cells (i := 2) rfl 0 3)⟩, rfl, trivial⟩ ⟨z1517, none, 0, none, 0, rfl, hy1534_0, (Sl.nil _ _), (Sl.nil _ _), (St.forget (St.forget hst1535 2) 1)⟩
        · replace hf := ifFb hc hf
          refine Run.skip ?_
          refine Run.seq ?_
          refine Run.region ?_
          refine Ops.loadAgg _ rfl Try.underlying29 rfl sz29 rfl (hst1534.cells (i := 1) rfl 0 3) rfl ?_
          refine Ops.store 2 [.slice A1518 l1518.length c1518, .slice A1519 l1519.length c1519, vi y7.1] hst1534 rfl rfl rfl rfl sz29 rfl (by simp [Value.oneCell']) (by simp) (fun w1536 hst1536 => ?_)
          refine Ops.ex (Ex.assign rfl) rfl rfl rfl ?_
          refine Ops.nil ?_
          obtain rfl := Option.some.inj hf
          exact Run.retV [.agg #[.slice A1518 l1518.length c1518, .slice A1519 l1519.length c1519, vi y7.1], vb true] rfl ⟨⟨_, rfl, run_loadN _ Try.underlying29 rfl sz29 rfl (hst1536.cells (i := 2) rfl 0 3)⟩, rfl, trivial⟩ ⟨z1517, A1518, c1518, A1519, c1519, rfl, hy1534_0, f1518, f1519, (St.forget (St.forget hst1536 2) 1)⟩
def go_law10_bytes.b2 (i136 : Nat) (a136 : Str) : (List UInt8) → (List UInt8 → Option Str) → Option Str :=
  fun l156 nxb136 => (go_pack_Writer_Text (⟨l156⟩ : packWriter) a136).bind fun y160 => nxb136 y160.b_
def go_law10_bytes.b1 (i13 : Nat) (a13 : apiRef) : (List UInt8) → (List UInt8 → Option Str) → Option Str :=
  fun l115 nxb13 => (go_pack_Writer_Text (⟨l115⟩ : packWriter) a13.Name).bind fun y126 => (go_pack_Writer_Byte y126 (toU8 a13.Kind)).bind fun y128 => (go_pack_Writer_Num y128 a13.From).bind fun y130 => (go_pack_Writer_Num y130 a13.To).bind fun y132 => nxb13 y132.b_
def go_law10_bytes (p0 : editsEdit) : Option Str :=
  (go_pack_Writer_Num (⟨[]⟩ : packWriter) p0.Floor).bind fun y7 => (go_pack_Writer_Num y7 (p0.Add.length : Int)).bind fun y11 => forL (go_law10_bytes.b1) (fun l115 => (go_pack_Writer_Num (⟨l115⟩ : packWriter) (p0.Drop.length : Int)).bind fun y134 => forL (go_law10_bytes.b2) (fun l156 => (go_pack_Writer_Bytes (⟨l156⟩ : packWriter)).bind fun y162 => some y162) 0 p0.Drop y134.b_) 0 p0.Add y11.b_
set_option maxRecDepth 100000 in
set_option maxHeartbeats 4000000 in
theorem go_law10_bytes.walk {w0 w : World} {X : List Res} {z0 : Zp} {p0 : editsEdit} {A1 : Option Addr} {c1 : Nat} {A2 : Option Addr} {c2 : Nat} {r : Str} (hst : Ht w0 (frz z0 :: X) w) (f1 : Sl tapiRef z0 A1 c1 p0.Add) (f2 : Sl tS z0 A2 c2 p0.Drop) (hf : go_law10_bytes p0 = some r) :
    Calls Try.prog 20 #[.agg #[.slice A1 p0.Add.length c1, .slice A2 p0.Drop.length c2, vi p0.Floor]] w fun e w' => ∃ (z' : Zp), e = .returned (vs r) ∧ Le z0 z' ∧ Ht w0 (frz z' :: X) w' := by
  refine calls_np Try.func20 rfl rfl ?_
  have hle0 := Le.refl z0
  unfold go_law10_bytes at hf
  refine Run.seq ?_
  refine Run.region ?_
  refine Ops.boxF [.slice A1 p0.Add.length c1, .slice A2 p0.Drop.length c2, vi p0.Floor] hst rfl rfl rfl (fun g4 w4 hst4 => ?_)
  refine Ops.ex (Ex.assign rfl) rfl rfl rfl ?_
  refine Ops.nil ?_
  refine Run.seq ?_
  refine Run.region ?_
  refine Ops.ex (Ex.build [.slice none 0 0] rfl Try.underlying76 zr76 (pl76 Try.underlying76) (by kernel_rfl)) rfl rfl rfl ?_
  refine Ops.boxF [.slice none 0 0] hst4 rfl rfl rfl (fun g5 w5 hst5 => ?_)
  refine Ops.ex (Ex.assign rfl) rfl rfl rfl ?_
  refine Ops.nil ?_
  refine Run.seq ?_
  refine Run.drawH [([], fun w => ∃ ζ Y, Le z0 ζ ∧ Ht w0 (frz ζ :: (blk g4 [.slice A1 p0.Add.length c1, .slice A2 p0.Drop.length c2, vi p0.Floor] 29) :: Y) w), ([3, 7], fun w => ∃ ζ Y, Le z0 ζ ∧ Ht w0 (frz ζ :: (blk g5 [.slice none 0 0] 76) :: Y) w)] (by kernel_rfl) hst5 (fun w6 hst6 => ?_)
  have hS0 := (⟨_, _, (Le.refl _), (St.up (St.up hst6 2 rfl) 1 rfl)⟩ : (fun w => ∃ ζ Y, Le z0 ζ ∧ Ht w0 (frz ζ :: (blk g4 [.slice A1 p0.Add.length c1, .slice A2 p0.Drop.length c2, vi p0.Floor] 29) :: Y) w) _)
  have hS1 := (⟨_, _, (Le.refl _), (St.up (St.up hst6 1 rfl) 1 rfl)⟩ : (fun w => ∃ ζ Y, Le z0 ζ ∧ Ht w0 (frz ζ :: (blk g5 [.slice none 0 0] 76) :: Y) w) _)
  refine Any.takeE 0 rfl rfl rfl rfl (by kernel_rfl) (fun _ _ _ _ _ h => h) ((Ex.move rfl).s) ?_
  refine Any.takeE 1 rfl rfl rfl rfl (by kernel_rfl) (fun _ _ _ _ _ h => h) ((Ex.fieldAddr rfl Try.underlying29 rfl sz3).s) ?_
  refine Any.take 0 2 rfl rfl rfl rfl rfl (by kernel_rfl) (fun _ _ _ _ _ h => h) (ExS.load rfl Try.underlying3 rfl (fun w hS => by obtain ⟨_, _, _, hs⟩ := hS; exact hs.cell (i := 1) rfl rfl)) hS0 ?_
  refine Any.takeE 4 rfl rfl rfl rfl (by kernel_rfl) (fun _ _ _ _ _ h => h) ((Ex.fieldAddr rfl Try.underlying29 rfl sz26).s) ?_
  refine Any.take 0 5 rfl rfl rfl rfl rfl (by kernel_rfl) (fun _ _ _ _ _ h => h) (ExS.load rfl Try.underlying26 rfl (fun w hS => by obtain ⟨_, _, _, hs⟩ := hS; exact hs.cell (i := 1) rfl rfl)) hS0 ?_
  refine Any.takeE 6 rfl rfl rfl rfl (by kernel_rfl) (fun _ _ _ _ _ h => h) ((Ex.len' rfl rfl rfl Try.underlying26).s) ?_
  have hst8 := St.row0 hst6 5 1
  obtain ⟨y7, hy7, hf⟩ := bnd hf
  refine Any.one 3 (by kernel_rfl) rfl rfl (One.of_ops rfl ?_)
  refine Ops.call rfl rfl Try.func34 (by kernel_rfl) (by kernel_rfl) rfl (go_pack_Writer_Num.walk (p0 := (⟨[]⟩ : packWriter)) (p1 := p0.Floor) (hst := (St.up (St.up (St.up (St.up hst8 3 rfl) 2 rfl) 3 rfl) 3 rfl)) (f1 := (Cs.nil tU8 z0)) (hf := hy7)) ?_
  rintro _ w7 ⟨z7, A10, c10, d10, rfl, hz7, f10, hst7⟩
  refine ⟨_, rfl, Ops.stop ?_⟩
  replace f1 := f1.mono hz7; replace f2 := f2.mono hz7
  replace hle0 := hle0.trans hz7
  have hS0 := (⟨_, _, hle0, (St.up (St.up hst7 3 rfl) 1 rfl)⟩ : (fun w => ∃ ζ Y, Le z0 ζ ∧ Ht w0 (frz ζ :: (blk g4 [.slice A1 p0.Add.length c1, .slice A2 p0.Drop.length c2, vi p0.Floor] 29) :: Y) w) _)
  refine ⟨⟨.inr (fun _ => hS0), .inl (by decide), trivial⟩, ?_⟩
  obtain ⟨y11, hy11, hf⟩ := bnd hf
  refine Any.one 7 (by kernel_rfl) rfl rfl (One.of_ops rfl ?_)
  refine Ops.call rfl rfl Try.func34 (by kernel_rfl) (by kernel_rfl) rfl (go_pack_Writer_Num.walk (p0 := y7) (p1 := (p0.Add.length : Int)) (hst := hst7) (f1 := f10) (hf := hy11)) ?_
  rintro _ w11 ⟨z11, A12, c12, d12, rfl, hz11, f12, hst11⟩
  refine ⟨_, rfl, Ops.stop ?_⟩
  replace f1 := f1.mono hz11; replace f2 := f2.mono hz11
  replace hle0 := hle0.trans hz11
  have hS0 := (⟨_, _, hle0, (St.up (St.up hst11 3 rfl) 1 rfl)⟩ : (fun w => ∃ ζ Y, Le z0 ζ ∧ Ht w0 (frz ζ :: (blk g4 [.slice A1 p0.Add.length c1, .slice A2 p0.Drop.length c2, vi p0.Floor] 29) :: Y) w) _)
  refine ⟨⟨.inr (fun _ => hS0), .inl (by decide), trivial⟩, ?_⟩
  refine Any.done (by kernel_rfl) ?_
  refine Run.seq ?_
  refine Run.seq ?_
  refine Run.region ?_
  refine Ops.ex (Ex.fieldAddr rfl Try.underlying29 rfl sz26) rfl rfl rfl ?_
  refine Ops.load rfl Try.underlying26 rfl (hst11.cell (i := 3) rfl rfl) rfl ?_
  refine Ops.ex (Ex.len' rfl rfl rfl Try.underlying26) rfl rfl rfl ?_
  refine Ops.ex (Ex.move rfl) rfl rfl rfl ?_
  refine Ops.nil ?_
  refine Run.block ?_
  have hc13 := f1.cap
  have hm14 := Le.refl z11
  refine Run.sub (e' := [(1, .pointer (some ⟨g4, 0, none⟩)), (3, .pointer (some ⟨g5, 0, none⟩)), (19, .slice A1 p0.Add.length c1), (20, vi (p0.Add.length : Int)), (21, vi ((0 : Nat) : Int))]) (subB_spec ⟨rfl, rfl, rfl, rfl, rfl, trivial⟩) ?_
  refine Run.loop (fun mb13 => (fun e' w' => ∃ (i13 : Nat) (l115 : List UInt8) (A115 : Option Addr) (c115 : Nat) (d115 : List Value) (z114 : Zp), mb13 = p0.Add.length - i13 ∧ i13 ≤ p0.Add.length ∧ forL (go_law10_bytes.b1) (fun l115 => (go_pack_Writer_Num (⟨l115⟩ : packWriter) (p0.Drop.length : Int)).bind fun y134 => forL (go_law10_bytes.b2) (fun l156 => (go_pack_Writer_Bytes (⟨l156⟩ : packWriter)).bind fun y162 => some y162) 0 p0.Drop y134.b_) i13 (p0.Add.drop i13) l115 = some r ∧ e' = [(1, .pointer (some ⟨g4, 0, none⟩)), (3, .pointer (some ⟨g5, 0, none⟩)), (19, .slice A1 p0.Add.length c1), (20, vi (p0.Add.length : Int)), (21, vi (i13 : Int))] ∧ Le z11 z114 ∧ Le z0 z114 ∧ Cs tU8 z114 d115 l115 ∧ Ht w0 (frz z114 :: (orow 5 1 (.slice A115 l115.length c115) l115.length d115) :: (blk g5 [.slice A115 l115.length c115] 76) :: (blk g4 [.slice A1 p0.Add.length c1, .slice A2 p0.Drop.length c2, vi p0.Floor] 29) :: X) w')) p0.Add.length ⟨0, y11.b_, A12, c12, d12, z11, rfl, Nat.zero_le _, hf, rfl, hm14, hle0, f12, (St.up (St.up (St.up (St.up hst11 3 rfl) 2 rfl) 3 rfl) 3 rfl)⟩ ?_
  rintro _ e' w116 ⟨i13, l115, A115, c115, d115, z114, rfl, hi13, hf, rfl, hz116, hy116_0, f115, hst116⟩
  replace f1 := f1.mono hz116; replace f2 := f2.mono hz116
  refine Run.seq ?_
  refine Run.region ?_
  refine Ops.ex (Ex.lss rfl rfl) rfl rfl rfl ?_
  refine Ops.nil ?_
  refine Run.seq ?_
  refine Run.cond rfl (fun hc => ?_) (fun hc => ?_)
  · have hl13 := lt_of_dec hc
    obtain ⟨a13, nxb13, ha13, hnxb13, hf⟩ := forL_in hf hl13
    unfold go_law10_bytes.b1 at hf
    try dsimp only at hf
    refine Run.skip ?_
    refine Run.seq ?_
    refine Run.block ?_
    refine Run.seq ?_
    refine Run.region ?_
    obtain ⟨g121, p121, o121, cs121, hA121, ho121, hr121, f121⟩ := SlH.elem f1.toH (atI_nat ha13)
    obtain rfl := hr121
    refine Ops.ex (Ex.ixA hA121 ho121 (atI_nat ha13) rfl rfl rfl Try.underlying26 sz24) rfl rfl rfl ?_
    refine Ops.loadAgg [vs a13.Name, vi a13.Kind, vi a13.From, vi a13.To] rfl Try.underlying24 rfl sz24 rfl (cells_of_zc rfl (f121.mono hst116.le)) rfl ?_
    refine Ops.allocF [vs [], vi 0, vi 0, vi 0] hst116 zr24 rfl rfl (fun g122 w122 hst122 => ?_)
    refine Ops.store 1 [vs a13.Name, vi a13.Kind, vi a13.From, vi a13.To] hst122 rfl rfl rfl rfl sz24 rfl (by simp [Value.oneCell']) (by simp) (fun w123 hst123 => ?_)
    refine Ops.nil ?_
    have hm125 := Le.refl z114
    refine Run.drawH [([], fun w => ∃ ζ Y, Le z114 ζ ∧ Ht w0 (frz ζ :: (blk g122 [vs a13.Name, vi a13.Kind, vi a13.From, vi a13.To] 24) :: (blk g4 [.slice A1 p0.Add.length c1, .slice A2 p0.Drop.length c2, vi p0.Floor] 29) :: Y) w), ([3, 7, 10, 13], fun w => ∃ ζ Y, Le z114 ζ ∧ Ht w0 (frz ζ :: (blk g5 [.slice A115 l115.length c115] 76) :: Y) w), ([3, 7, 10, 13], fun w => ∃ ζ Y, Le z114 ζ ∧ Ht w0 (frz ζ :: (orow 5 1 (.slice A115 l115.length c115) l115.length d115) :: Y) w)] (by kernel_rfl) hst123 (fun w124 hst124 => ?_)
    have hS0 := (⟨_, _, (Le.refl _), (St.up (St.up (St.up hst124 4 rfl) 2 rfl) 2 rfl)⟩ : (fun w => ∃ ζ Y, Le z114 ζ ∧ Ht w0 (frz ζ :: (blk g122 [vs a13.Name, vi a13.Kind, vi a13.From, vi a13.To] 24) :: (blk g4 [.slice A1 p0.Add.length c1, .slice A2 p0.Drop.length c2, vi p0.Floor] 29) :: Y) w) _)
    have hS1 := (⟨_, _, (Le.refl _), (St.up (St.up hst124 3 rfl) 1 rfl)⟩ : (fun w => ∃ ζ Y, Le z114 ζ ∧ Ht w0 (frz ζ :: (blk g5 [.slice A115 l115.length c115] 76) :: Y) w) _)
    have hS2 := (⟨_, _, (Le.refl _), (St.up (St.up hst124 2 rfl) 1 rfl)⟩ : (fun w => ∃ ζ Y, Le z114 ζ ∧ Ht w0 (frz ζ :: (orow 5 1 (.slice A115 l115.length c115) l115.length d115) :: Y) w) _)
    refine Any.takeE 0 rfl rfl rfl rfl (by kernel_rfl) (fun _ _ _ _ _ h => h) ((Ex.move rfl).s) ?_
    refine Any.takeE 1 rfl rfl rfl rfl (by kernel_rfl) (fun _ _ _ _ _ h => h) ((Ex.fieldAddr rfl Try.underlying24 rfl sz9).s) ?_
    refine Any.take 0 2 rfl rfl rfl rfl rfl (by kernel_rfl) (fun _ _ _ _ _ h => h) (ExS.load rfl Try.underlying9 rfl (fun w hS => by obtain ⟨_, _, _, hs⟩ := hS; exact hs.cell (i := 1) rfl rfl)) hS0 ?_
    refine Any.takeE 4 rfl rfl rfl rfl (by kernel_rfl) (fun _ _ _ _ _ h => h) ((Ex.fieldAddr rfl Try.underlying24 rfl sz22).s) ?_
    refine Any.take 0 5 rfl rfl rfl rfl rfl (by kernel_rfl) (fun _ _ _ _ _ h => h) (ExS.load rfl Try.underlying22 rfl (fun w hS => by obtain ⟨_, _, _, hs⟩ := hS; exact hs.cell (i := 1) rfl rfl)) hS0 ?_
    refine Any.takeE 6 rfl rfl rfl rfl (by kernel_rfl) (fun _ _ _ _ _ h => h) ((Ex.cto8 rfl Try.underlying22 Try.underlying5).s) ?_
    refine Any.takeE 8 rfl rfl rfl rfl (by kernel_rfl) (fun _ _ _ _ _ h => h) ((Ex.fieldAddr rfl Try.underlying24 rfl sz3).s) ?_
    refine Any.take 0 9 rfl rfl rfl rfl rfl (by kernel_rfl) (fun _ _ _ _ _ h => h) (ExS.load rfl Try.underlying3 rfl (fun w hS => by obtain ⟨_, _, _, hs⟩ := hS; exact hs.cell (i := 1) rfl rfl)) hS0 ?_
    refine Any.takeE 11 rfl rfl rfl rfl (by kernel_rfl) (fun _ _ _ _ _ h => h) ((Ex.fieldAddr rfl Try.underlying24 rfl sz3).s) ?_
    refine Any.take 0 12 rfl rfl rfl rfl rfl (by kernel_rfl) (fun _ _ _ _ _ h => h) (ExS.load rfl Try.underlying3 rfl (fun w hS => by obtain ⟨_, _, _, hs⟩ := hS; exact hs.cell (i := 1) rfl rfl)) hS0 ?_
    obtain ⟨y126, hy126, hf⟩ := bnd hf
    refine Any.one 3 (by kernel_rfl) rfl rfl (One.of_ops rfl ?_)
    refine Ops.call rfl rfl Try.func35 (by kernel_rfl) (by kernel_rfl) rfl (go_pack_Writer_Text.walk (p0 := (⟨l115⟩ : packWriter)) (p1 := a13.Name) (hst := (St.up (St.up (St.up (St.up (St.up hst124 4 rfl) 2 rfl) 3 rfl) 4 rfl) 4 rfl)) (f1 := f115) (hf := hy126)) ?_
    rintro _ w126 ⟨z126, A127, c127, d127, rfl, hz126, f127, hst126⟩
    refine ⟨_, rfl, Ops.stop ?_⟩
    replace f1 := f1.mono hz126; replace f121 := f121.mono hz126; replace f2 := f2.mono hz126
    replace hy116_0 := hy116_0.trans hz126
    replace hz116 := hz116.trans hz126
    replace hm125 := hm125.trans hz126
    have hS0 := (⟨_, _, hm125, (St.up (St.up (St.up hst126 4 rfl) 4 rfl) 2 rfl)⟩ : (fun w => ∃ ζ Y, Le z114 ζ ∧ Ht w0 (frz ζ :: (blk g122 [vs a13.Name, vi a13.Kind, vi a13.From, vi a13.To] 24) :: (blk g4 [.slice A1 p0.Add.length c1, .slice A2 p0.Drop.length c2, vi p0.Floor] 29) :: Y) w) _)
    refine ⟨⟨.inr (fun _ => hS0), .inl (by decide), .inl (by decide), trivial⟩, ?_⟩
    obtain ⟨y128, hy128, hf⟩ := bnd hf
    refine Any.one 7 (by kernel_rfl) rfl rfl (One.of_ops rfl ?_)
    refine Ops.call rfl rfl Try.func36 (by kernel_rfl) (by kernel_rfl) rfl (go_pack_Writer_Byte.walk (p0 := y126) (p1 := toU8 a13.Kind) (hst := hst126) (f1 := f127) (hf := hy128)) ?_
    rintro _ w128 ⟨z128, A129, c129, d129, rfl, hz128, f129, hst128⟩
    refine ⟨_, rfl, Ops.stop ?_⟩
    replace f1 := f1.mono hz128; replace f121 := f121.mono hz128; replace f2 := f2.mono hz128
    replace hy116_0 := hy116_0.trans hz128
    replace hz116 := hz116.trans hz128
    replace hm125 := hm125.trans hz128
    have hS0 := (⟨_, _, hm125, (St.up (St.up (St.up hst128 4 rfl) 4 rfl) 2 rfl)⟩ : (fun w => ∃ ζ Y, Le z114 ζ ∧ Ht w0 (frz ζ :: (blk g122 [vs a13.Name, vi a13.Kind, vi a13.From, vi a13.To] 24) :: (blk g4 [.slice A1 p0.Add.length c1, .slice A2 p0.Drop.length c2, vi p0.Floor] 29) :: Y) w) _)
    refine ⟨⟨.inr (fun _ => hS0), .inl (by decide), .inl (by decide), trivial⟩, ?_⟩
    obtain ⟨y130, hy130, hf⟩ := bnd hf
    refine Any.one 10 (by kernel_rfl) rfl rfl (One.of_ops rfl ?_)
    refine Ops.call rfl rfl Try.func34 (by kernel_rfl) (by kernel_rfl) rfl (go_pack_Writer_Num.walk (p0 := y128) (p1 := a13.From) (hst := hst128) (f1 := f129) (hf := hy130)) ?_
    rintro _ w130 ⟨z130, A131, c131, d131, rfl, hz130, f131, hst130⟩
    refine ⟨_, rfl, Ops.stop ?_⟩
    replace f1 := f1.mono hz130; replace f121 := f121.mono hz130; replace f2 := f2.mono hz130
    replace hy116_0 := hy116_0.trans hz130
    replace hz116 := hz116.trans hz130
    replace hm125 := hm125.trans hz130
    have hS0 := (⟨_, _, hm125, (St.up (St.up (St.up hst130 4 rfl) 4 rfl) 2 rfl)⟩ : (fun w => ∃ ζ Y, Le z114 ζ ∧ Ht w0 (frz ζ :: (blk g122 [vs a13.Name, vi a13.Kind, vi a13.From, vi a13.To] 24) :: (blk g4 [.slice A1 p0.Add.length c1, .slice A2 p0.Drop.length c2, vi p0.Floor] 29) :: Y) w) _)
    refine ⟨⟨.inr (fun _ => hS0), .inl (by decide), .inl (by decide), trivial⟩, ?_⟩
    obtain ⟨y132, hy132, hf⟩ := bnd hf
    refine Any.one 13 (by kernel_rfl) rfl rfl (One.of_ops rfl ?_)
    refine Ops.call rfl rfl Try.func34 (by kernel_rfl) (by kernel_rfl) rfl (go_pack_Writer_Num.walk (p0 := y130) (p1 := a13.To) (hst := hst130) (f1 := f131) (hf := hy132)) ?_
    rintro _ w132 ⟨z132, A133, c133, d133, rfl, hz132, f133, hst132⟩
    refine ⟨_, rfl, Ops.stop ?_⟩
    replace f1 := f1.mono hz132; replace f121 := f121.mono hz132; replace f2 := f2.mono hz132
    replace hy116_0 := hy116_0.trans hz132
    replace hz116 := hz116.trans hz132
    replace hm125 := hm125.trans hz132
    have hS0 := (⟨_, _, hm125, (St.up (St.up (St.up hst132 4 rfl) 4 rfl) 2 rfl)⟩ : (fun w => ∃ ζ Y, Le z114 ζ ∧ Ht w0 (frz ζ :: (blk g122 [vs a13.Name, vi a13.Kind, vi a13.From, vi a13.To] 24) :: (blk g4 [.slice A1 p0.Add.length c1, .slice A2 p0.Drop.length c2, vi p0.Floor] 29) :: Y) w) _)
    refine ⟨⟨.inr (fun _ => hS0), .inl (by decide), .inl (by decide), trivial⟩, ?_⟩
    refine Any.done (by kernel_rfl) ?_
    refine Run.endBlk ?_
    refine Run.region ?_
    refine Ops.ex (Ex.add rfl rfl) rfl rfl rfl ?_
    refine Ops.ex (Ex.move rfl) rfl rfl rfl ?_
    refine Ops.nil ?_
    refine Run.re 21 rfl (congrArg vi (wr_succ' hl13 hc13)) ?_
    exact Run.sub (by exact subB_spec ⟨rfl, rfl, rfl, rfl, rfl, trivial⟩) (Run.stop ⟨p0.Add.length - (i13 + 1), by omega, i13 + 1, y132.b_, A133, c133, d133, z132, rfl, by omega, (hnxb13 _).symm.trans hf, rfl, hz116, hy116_0, f133, (St.up (St.up (St.up (St.up (St.forget hst132 3) 3 rfl) 2 rfl) 3 rfl) 3 rfl)⟩)
  · replace hf := forL_out hf (nlt_of_dec hc)
    try dsimp only at hf
    refine Run.exit _ rfl ?_
    refine Run.seq ?_
    refine Run.region ?_
    refine Ops.ex (Ex.move rfl) rfl rfl rfl ?_
    refine Ops.ex (Ex.fieldAddr rfl Try.underlying29 rfl sz27) rfl rfl rfl ?_
    refine Ops.load rfl Try.underlying27 rfl (hst116.cell (i := 3) rfl rfl) rfl ?_
    refine Ops.ex (Ex.len' rfl rfl rfl Try.underlying27) rfl rfl rfl ?_
    obtain ⟨y134, hy134, hf⟩ := bnd hf
    refine Ops.call rfl rfl Try.func34 (by kernel_rfl) (by kernel_rfl) rfl (go_pack_Writer_Num.walk (p0 := (⟨l115⟩ : packWriter)) (p1 := (p0.Drop.length : Int)) (hst := (St.up (St.up (St.up (St.up hst116 3 rfl) 2 rfl) 3 rfl) 3 rfl)) (f1 := f115) (hf := hy134)) ?_
    rintro _ w134 ⟨z134, A135, c135, d135, rfl, hz134, f135, hst134⟩
    refine ⟨_, rfl, ?_⟩
    replace f1 := f1.mono hz134; replace f2 := f2.mono hz134
    replace hy116_0 := hy116_0.trans hz134
    replace hz116 := hz116.trans hz134
    refine Ops.nil ?_
    refine Run.seq ?_
    refine Run.seq ?_
    refine Run.region ?_
    refine Ops.ex (Ex.fieldAddr rfl Try.underlying29 rfl sz27) rfl rfl rfl ?_
    refine Ops.load rfl Try.underlying27 rfl (hst134.cell (i := 3) rfl rfl) rfl ?_
    refine Ops.ex (Ex.len' rfl rfl rfl Try.underlying27) rfl rfl rfl ?_
    refine Ops.ex (Ex.move rfl) rfl rfl rfl ?_
    refine Ops.nil ?_
    refine Run.block ?_
    have hc136 := f2.cap
    have hm137 := Le.refl z134
    refine Run.sub (e' := [(3, .pointer (some ⟨g5, 0, none⟩)), (46, .slice A2 p0.Drop.length c2), (47, vi (p0.Drop.length : Int)), (48, vi ((0 : Nat) : Int))]) (subB_spec ⟨rfl, rfl, rfl, rfl, trivial⟩) ?_
    refine Run.loop (fun mb136 => (fun e' w' => ∃ (i136 : Nat) (l156 : List UInt8) (A156 : Option Addr) (c156 : Nat) (d156 : List Value) (z155 : Zp), mb136 = p0.Drop.length - i136 ∧ i136 ≤ p0.Drop.length ∧ forL (go_law10_bytes.b2) (fun l156 => (go_pack_Writer_Bytes (⟨l156⟩ : packWriter)).bind fun y162 => some y162) i136 (p0.Drop.drop i136) l156 = some r ∧ e' = [(3, .pointer (some ⟨g5, 0, none⟩)), (46, .slice A2 p0.Drop.length c2), (47, vi (p0.Drop.length : Int)), (48, vi (i136 : Int))] ∧ Le z134 z155 ∧ Le z0 z155 ∧ Le z11 z155 ∧ Cs tU8 z155 d156 l156 ∧ Ht w0 (frz z155 :: (orow 5 1 (.slice A156 l156.length c156) l156.length d156) :: (blk g5 [.slice A156 l156.length c156] 76) :: X) w')) p0.Drop.length ⟨0, y134.b_, A135, c135, d135, z134, rfl, Nat.zero_le _, hf, rfl, hm137, hy116_0, hz116, f135, (St.up (St.up (St.up (St.forget hst134 3) 1 rfl) 2 rfl) 2 rfl)⟩ ?_
    rintro _ e' w157 ⟨i136, l156, A156, c156, d156, z155, rfl, hi136, hf, rfl, hz157, hy157_0, hy157_1, f156, hst157⟩
    replace f2 := f2.mono hz157
    refine Run.seq ?_
    refine Run.region ?_
    refine Ops.ex (Ex.lss rfl rfl) rfl rfl rfl ?_
    refine Ops.nil ?_
    refine Run.seq ?_
    refine Run.cond rfl (fun hc => ?_) (fun hc => ?_)
    · have hl136 := lt_of_dec hc
      obtain ⟨a136, nxb136, ha136, hnxb136, hf⟩ := forL_in hf hl136
      unfold go_law10_bytes.b2 at hf
      try dsimp only at hf
      refine Run.skip ?_
      refine Run.seq ?_
      refine Run.block ?_
      refine Run.seq ?_
      refine Run.region ?_
      obtain ⟨g159, p159, o159, cs159, hA159, ho159, hr159, f159⟩ := SlH.elem f2.toH (atI_nat ha136)
      obtain rfl := hr159
      refine Ops.ex (Ex.ixA hA159 ho159 (atI_nat ha136) rfl rfl rfl Try.underlying27 sz9) rfl rfl rfl ?_
      refine Ops.load rfl Try.underlying9 rfl ((f159.mono hst157.le) 0 _ rfl) rfl ?_
      refine Ops.ex (Ex.assign rfl) rfl rfl rfl ?_
      refine Ops.nil ?_
      refine Run.region ?_
      refine Ops.ex (Ex.move rfl) rfl rfl rfl ?_
      refine Ops.ex (Ex.move rfl) rfl rfl rfl ?_
      obtain ⟨y160, hy160, hf⟩ := bnd hf
      refine Ops.call rfl rfl Try.func35 (by kernel_rfl) (by kernel_rfl) rfl (go_pack_Writer_Text.walk (p0 := (⟨l156⟩ : packWriter)) (p1 := a136) (hst := (St.up (St.up (St.up hst157 1 rfl) 2 rfl) 2 rfl)) (f1 := f156) (hf := hy160)) ?_
      rintro _ w160 ⟨z160, A161, c161, d161, rfl, hz160, f161, hst160⟩
      refine ⟨_, rfl, ?_⟩
      replace f2 := f2.mono hz160; replace f159 := f159.mono hz160
      replace hy157_0 := hy157_0.trans hz160
      replace hy157_1 := hy157_1.trans hz160
      replace hz157 := hz157.trans hz160
      refine Ops.nil ?_
      refine Run.endBlk ?_
      refine Run.region ?_
      refine Ops.ex (Ex.add rfl rfl) rfl rfl rfl ?_
      refine Ops.ex (Ex.move rfl) rfl rfl rfl ?_
      refine Ops.nil ?_
      refine Run.re 48 rfl (congrArg vi (wr_succ' hl136 hc136)) ?_
      exact Run.sub (by exact subB_spec ⟨rfl, rfl, rfl, rfl, trivial⟩) (Run.stop ⟨p0.Drop.length - (i136 + 1), by omega, i136 + 1, y160.b_, A161, c161, d161, z160, rfl, by omega, (hnxb136 _).symm.trans hf, rfl, hz157, hy157_0, hy157_1, f161, (St.up (St.up (St.up hst160 1 rfl) 2 rfl) 2 rfl)⟩)
    · replace hf := forL_out hf (nlt_of_dec hc)
      try dsimp only at hf
      refine Run.exit _ rfl ?_
      refine Run.seq ?_
      refine Run.region ?_
      refine Ops.ex (Ex.move rfl) rfl rfl rfl ?_
      obtain ⟨y162, hy162, hf⟩ := bnd hf
      refine Ops.call rfl rfl Try.func37 (by kernel_rfl) (by kernel_rfl) rfl (go_pack_Writer_Bytes.walk (p0 := (⟨l156⟩ : packWriter)) (hst := (St.up (St.up (St.up hst157 1 rfl) 2 rfl) 2 rfl)) (f1 := f156) (hf := hy162)) ?_
      rintro _ w162 ⟨z162, A163, c163, rfl, hz162, f163, hst162⟩
      refine ⟨_, rfl, ?_⟩
      replace f2 := f2.mono hz162; replace f156 := f156.mono hz162
      replace hy157_0 := hy157_0.trans hz162
      replace hy157_1 := hy157_1.trans hz162
      replace hz157 := hz157.trans hz162
      refine Ops.str8 (f163.at_ hst162) rfl Try.underlying30 Try.underlying5 Try.underlying9 rfl (?_)
      refine Ops.ex (Ex.assign rfl) rfl rfl rfl ?_
      refine Ops.nil ?_
      obtain rfl := Option.some.inj hf
      exact Run.retV [vs y162] rfl ⟨rfl, trivial⟩ ⟨z162, rfl, hy157_0, (St.forget (St.forget hst162 2) 1)⟩
end Go.Proofs.Ytjlhookdigbjhaa.E5
