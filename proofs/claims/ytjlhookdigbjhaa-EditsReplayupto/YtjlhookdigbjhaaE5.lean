/- Edits: Bytes, Read. -/
import Derived.Test.YtjlhookdigbjhaaE4
namespace Go.Proofs.Ytjlhookdigbjhaa.E5
open Go Go.RowKit Go.Proofs.Ytjlhookdigbjhaa.Sx Go.Proofs.Ytjlhookdigbjhaa.E1 Go.Proofs.Ytjlhookdigbjhaa.E2 Go.Proofs.Ytjlhookdigbjhaa.E3 Go.Proofs.Ytjlhookdigbjhaa.E4
set_option linter.unusedVariables false
set_option linter.unusedSimpArgs false
theorem zr76 : (Try.prog.info? 76).map (·.zero) = some (some (.agg #[.slice none 0 0])) := by kernel_rfl
theorem pl76 {fs : Array Field} (h : Try.prog.underlying 76 = some (.struct fs)) (w : World) : (fs.mapM fun f => do pure (f.offset, ← sizeOf f.type) : Sem (Array (Nat × Nat))).run Try.prog w = .ok #[(0, 1)] w := by
  rw [Try.underlying76] at h
  cases h
  kernel_rfl
def go_edits_Bytes.b2 (i142 : Nat) (a142 : Str) : (List UInt8) → (List UInt8 → Option (List UInt8)) → Option (List UInt8) :=
  fun l164 nxb142 => (go_pack_Writer_Text (⟨l164⟩ : packWriter) a142).bind fun y168 => nxb142 y168.b_
def go_edits_Bytes.b1 (i13 : Nat) (a13 : apiRef) : (List UInt8) → (List UInt8 → Option (List UInt8)) → Option (List UInt8) :=
  fun l121 nxb13 => (go_pack_Writer_Text (⟨l121⟩ : packWriter) a13.Name).bind fun y132 => (go_pack_Writer_Byte y132 (toU8 a13.Kind)).bind fun y134 => (go_pack_Writer_Num y134 a13.From).bind fun y136 => (go_pack_Writer_Num y136 a13.To).bind fun y138 => nxb13 y138.b_
def go_edits_Bytes (p0 : editsEdit) : Option (List UInt8) :=
  (go_pack_Writer_Num (⟨[]⟩ : packWriter) p0.Floor).bind fun y7 => (go_pack_Writer_Num y7 (p0.Add.length : Int)).bind fun y11 => forL (go_edits_Bytes.b1) (fun l121 => (go_pack_Writer_Num (⟨l121⟩ : packWriter) (p0.Drop.length : Int)).bind fun y140 => forL (go_edits_Bytes.b2) (fun l164 => (go_pack_Writer_Bytes (⟨l164⟩ : packWriter)).bind fun y170 => some y170) 0 p0.Drop y140.b_) 0 p0.Add y11.b_
set_option maxRecDepth 100000 in
set_option maxHeartbeats 4000000 in
theorem go_edits_Bytes.walk {w0 w : World} {X : List Res} {z0 : Zp} {p0 : editsEdit} {A1 : Option Addr} {c1 : Nat} {A2 : Option Addr} {c2 : Nat} {r : List UInt8} (hst : Ht w0 (frz z0 :: X) w) (f1 : Sl tapiRef z0 A1 c1 p0.Add) (f2 : Sl tS z0 A2 c2 p0.Drop) (hf : go_edits_Bytes p0 = some r) :
    Calls Try.prog 18 #[.agg #[.slice A1 p0.Add.length c1, .slice A2 p0.Drop.length c2, vi p0.Floor]] w fun e w' => ∃ (z' : Zp) (A9001 : Option Addr) (c9001 : Nat), e = .returned (.slice A9001 r.length c9001) ∧ Le z0 z' ∧ Sl tU8 z' A9001 c9001 r ∧ Ht w0 (frz z' :: X) w' := by
  refine calls_np Try.func18 rfl rfl ?_
  have hle0 := Le.refl z0
  unfold go_edits_Bytes at hf
  refine Run.seq ?_
  refine Run.region ?_
  refine Ops.boxF [.slice A1 p0.Add.length c1, .slice A2 p0.Drop.length c2, vi p0.Floor] hst rfl rfl rfl (fun g4 w4 hst4 => ?_)
  refine Ops.ex (Ex.assign rfl) rfl rfl rfl ?_
  refine Ops.nil ?_
  refine Run.seq ?_
  refine Run.region ?_
  refine Ops.ex (Ex.build [.slice none 0 0] rfl Try.underlying76 zr76 (pl76 Try.underlying76) (by kernel_rfl)) rfl rfl rfl ?_
  refine Ops.boxF [.slice none 0 0] hst4 rfl rfl rfl (fun g5 w5 hst5 => ?_)
  refine Ops.ex (Ex.assign rfl) rfl rfl rfl ?_
  refine Ops.nil ?_
  refine Run.seq ?_
  refine Run.drawH [([], fun w => ∃ ζ Y, Le z0 ζ ∧ Ht w0 (frz ζ :: (blk g4 [.slice A1 p0.Add.length c1, .slice A2 p0.Drop.length c2, vi p0.Floor] 29) :: Y) w), ([3, 7], fun w => ∃ ζ Y, Le z0 ζ ∧ Ht w0 (frz ζ :: (blk g5 [.slice none 0 0] 76) :: Y) w)] (by kernel_rfl) hst5 (fun w6 hst6 => ?_)
  have hS0 := (⟨_, _, (Le.refl _), (St.up (St.up hst6 2 rfl) 1 rfl)⟩ : (fun w => ∃ ζ Y, Le z0 ζ ∧ Ht w0 (frz ζ :: (blk g4 [.slice A1 p0.Add.length c1, .slice A2 p0.Drop.length c2, vi p0.Floor] 29) :: Y) w) _)
  have hS1 := (⟨_, _, (Le.refl _), (St.up (St.up hst6 1 rfl) 1 rfl)⟩ : (fun w => ∃ ζ Y, Le z0 ζ ∧ Ht w0 (frz ζ :: (blk g5 [.slice none 0 0] 76) :: Y) w) _)
  refine Any.takeE 0 rfl rfl rfl rfl (by kernel_rfl) (fun _ _ _ _ _ h => h) ((Ex.move rfl).s) ?_
  refine Any.takeE 1 rfl rfl rfl rfl (by kernel_rfl) (fun _ _ _ _ _ h => h) ((Ex.fieldAddr rfl Try.underlying29 rfl sz3).s) ?_
  refine Any.take 0 2 rfl rfl rfl rfl rfl (by kernel_rfl) (fun _ _ _ _ _ h => h) (ExS.load rfl Try.underlying3 rfl (fun w hS => by obtain ⟨_, _, _, hs⟩ := hS; exact hs.cell (i := 1) rfl rfl)) hS0 ?_
  refine Any.takeE 4 rfl rfl rfl rfl (by kernel_rfl) (fun _ _ _ _ _ h => h) ((Ex.fieldAddr rfl Try.underlying29 rfl sz26).s) ?_
  refine Any.take 0 5 rfl rfl rfl rfl rfl (by kernel_rfl) (fun _ _ _ _ _ h => h) (ExS.load rfl Try.underlying26 rfl (fun w hS => by obtain ⟨_, _, _, hs⟩ := hS; exact hs.cell (i := 1) rfl rfl)) hS0 ?_
  refine Any.takeE 6 rfl rfl rfl rfl (by kernel_rfl) (fun _ _ _ _ _ h => h) ((Ex.len' rfl rfl rfl Try.underlying26).s) ?_
  have hst8 := St.row0 hst6 5 1
  obtain ⟨y7, hy7, hf⟩ := bnd hf
  refine Any.one 3 (by kernel_rfl) rfl rfl (One.of_ops rfl ?_)
  refine Ops.call rfl rfl Try.func34 (by kernel_rfl) (by kernel_rfl) rfl (go_pack_Writer_Num.walk (p0 := (⟨[]⟩ : packWriter)) (p1 := p0.Floor) (hst := (St.up (St.up (St.up (St.up hst8 3 rfl) 2 rfl) 3 rfl) 3 rfl)) (f1 := (Cs.nil tU8 z0)) (hf := hy7)) ?_
  rintro _ w7 ⟨z7, A10, c10, d10, rfl, hz7, f10, hst7⟩
  refine ⟨_, rfl, Ops.stop ?_⟩
  replace f1 := f1.mono hz7; replace f2 := f2.mono hz7
  replace hle0 := hle0.trans hz7
  have hS0 := (⟨_, _, hle0, (St.up (St.up hst7 3 rfl) 1 rfl)⟩ : (fun w => ∃ ζ Y, Le z0 ζ ∧ Ht w0 (frz ζ :: (blk g4 [.slice A1 p0.Add.length c1, .slice A2 p0.Drop.length c2, vi p0.Floor] 29) :: Y) w) _)
  refine ⟨⟨.inr (fun _ => hS0), .inl (by decide), trivial⟩, ?_⟩
  obtain ⟨y11, hy11, hf⟩ := bnd hf
  refine Any.one 7 (by kernel_rfl) rfl rfl (One.of_ops rfl ?_)
  refine Ops.call rfl rfl Try.func34 (by kernel_rfl) (by kernel_rfl) rfl (go_pack_Writer_Num.walk (p0 := y7) (p1 := (p0.Add.length : Int)) (hst := hst7) (f1 := f10) (hf := hy11)) ?_
  rintro _ w11 ⟨z11, A12, c12, d12, rfl, hz11, f12, hst11⟩
  refine ⟨_, rfl, Ops.stop ?_⟩
  replace f1 := f1.mono hz11; replace f2 := f2.mono hz11
  replace hle0 := hle0.trans hz11
  have hS0 := (⟨_, _, hle0, (St.up (St.up hst11 3 rfl) 1 rfl)⟩ : (fun w => ∃ ζ Y, Le z0 ζ ∧ Ht w0 (frz ζ :: (blk g4 [.slice A1 p0.Add.length c1, .slice A2 p0.Drop.length c2, vi p0.Floor] 29) :: Y) w) _)
  refine ⟨⟨.inr (fun _ => hS0), .inl (by decide), trivial⟩, ?_⟩
  refine Any.done (by kernel_rfl) ?_
  refine Run.seq ?_
  refine Run.seq ?_
  refine Run.region ?_
  refine Ops.ex (Ex.fieldAddr rfl Try.underlying29 rfl sz26) rfl rfl rfl ?_
  refine Ops.load rfl Try.underlying26 rfl (hst11.cell (i := 3) rfl rfl) rfl ?_
  refine Ops.ex (Ex.len' rfl rfl rfl Try.underlying26) rfl rfl rfl ?_
  refine Ops.ex (Ex.move rfl) rfl rfl rfl ?_
  refine Ops.nil ?_
  refine Run.block ?_
  have hc13 := f1.cap
  have hm14 := Le.refl z11
  refine Run.sub (e' := [(1, .pointer (some ⟨g4, 0, none⟩)), (3, .pointer (some ⟨g5, 0, none⟩)), (19, .slice A1 p0.Add.length c1), (20, vi (p0.Add.length : Int)), (21, vi ((0 : Nat) : Int))]) (subB_spec ⟨rfl, rfl, rfl, rfl, rfl, trivial⟩) ?_
  refine Run.loop (fun mb13 => (fun e' w' => ∃ (i13 : Nat) (l121 : List UInt8) (A121 : Option Addr) (c121 : Nat) (d121 : List Value) (z120 : Zp), mb13 = p0.Add.length - i13 ∧ i13 ≤ p0.Add.length ∧ forL (go_edits_Bytes.b1) (fun l121 => (go_pack_Writer_Num (⟨l121⟩ : packWriter) (p0.Drop.length : Int)).bind fun y140 => forL (go_edits_Bytes.b2) (fun l164 => (go_pack_Writer_Bytes (⟨l164⟩ : packWriter)).bind fun y170 => some y170) 0 p0.Drop y140.b_) i13 (p0.Add.drop i13) l121 = some r ∧ e' = [(1, .pointer (some ⟨g4, 0, none⟩)), (3, .pointer (some ⟨g5, 0, none⟩)), (19, .slice A1 p0.Add.length c1), (20, vi (p0.Add.length : Int)), (21, vi (i13 : Int))] ∧ Le z11 z120 ∧ Le z0 z120 ∧ Cs tU8 z120 d121 l121 ∧ Ht w0 (frz z120 :: (orow 5 1 (.slice A121 l121.length c121) l121.length d121) :: (blk g5 [.slice A121 l121.length c121] 76) :: (blk g4 [.slice A1 p0.Add.length c1, .slice A2 p0.Drop.length c2, vi p0.Floor] 29) :: X) w')) p0.Add.length ⟨0, y11.b_, A12, c12, d12, z11, rfl, Nat.zero_le _, hf, rfl, hm14, hle0, f12, (St.up (St.up (St.up (St.up hst11 3 rfl) 2 rfl) 3 rfl) 3 rfl)⟩ ?_
  rintro _ e' w122 ⟨i13, l121, A121, c121, d121, z120, rfl, hi13, hf, rfl, hz122, hy122_0, f121, hst122⟩
  replace f1 := f1.mono hz122; replace f2 := f2.mono hz122
  refine Run.seq ?_
  refine Run.region ?_
  refine Ops.ex (Ex.lss rfl rfl) rfl rfl rfl ?_
  refine Ops.nil ?_
  refine Run.seq ?_
  refine Run.cond rfl (fun hc => ?_) (fun hc => ?_)
  · have hl13 := lt_of_dec hc
    obtain ⟨a13, nxb13, ha13, hnxb13, hf⟩ := forL_in hf hl13
    unfold go_edits_Bytes.b1 at hf
    try dsimp only at hf
    refine Run.skip ?_
    refine Run.seq ?_
    refine Run.block ?_
    refine Run.seq ?_
    refine Run.region ?_
    obtain ⟨g127, p127, o127, cs127, hA127, ho127, hr127, f127⟩ := SlH.elem f1.toH (atI_nat ha13)
    obtain rfl := hr127
    refine Ops.ex (Ex.ixA hA127 ho127 (atI_nat ha13) rfl rfl rfl Try.underlying26 sz24) rfl rfl rfl ?_
    refine Ops.loadAgg [vs a13.Name, vi a13.Kind, vi a13.From, vi a13.To] rfl Try.underlying24 rfl sz24 rfl (cells_of_zc rfl (f127.mono hst122.le)) rfl ?_
    refine Ops.allocF [vs [], vi 0, vi 0, vi 0] hst122 zr24 rfl rfl (fun g128 w128 hst128 => ?_)
    refine Ops.store 1 [vs a13.Name, vi a13.Kind, vi a13.From, vi a13.To] hst128 rfl rfl rfl rfl sz24 rfl (by simp [Value.oneCell']) (by simp) (fun w129 hst129 => ?_)
    refine Ops.nil ?_
    have hm131 := Le.refl z120
    refine Run.drawH [([], fun w => ∃ ζ Y, Le z120 ζ ∧ Ht w0 (frz ζ :: (blk g128 [vs a13.Name, vi a13.Kind, vi a13.From, vi a13.To] 24) :: (blk g4 [.slice A1 p0.Add.length c1, .slice A2 p0.Drop.length c2, vi p0.Floor] 29) :: Y) w), ([3, 7, 10, 13], fun w => ∃ ζ Y, Le z120 ζ ∧ Ht w0 (frz ζ :: (orow 5 1 (.slice A121 l121.length c121) l121.length d121) :: Y) w), ([3, 7, 10, 13], fun w => ∃ ζ Y, Le z120 ζ ∧ Ht w0 (frz ζ :: (blk g5 [.slice A121 l121.length c121] 76) :: Y) w)] (by kernel_rfl) hst129 (fun w130 hst130 => ?_)
    have hS0 := (⟨_, _, (Le.refl _), (St.up (St.up (St.up hst130 4 rfl) 2 rfl) 2 rfl)⟩ : (fun w => ∃ ζ Y, Le z120 ζ ∧ Ht w0 (frz ζ :: (blk g128 [vs a13.Name, vi a13.Kind, vi a13.From, vi a13.To] 24) :: (blk g4 [.slice A1 p0.Add.length c1, .slice A2 p0.Drop.length c2, vi p0.Floor] 29) :: Y) w) _)
    have hS1 := (⟨_, _, (Le.refl _), (St.up (St.up hst130 2 rfl) 1 rfl)⟩ : (fun w => ∃ ζ Y, Le z120 ζ ∧ Ht w0 (frz ζ :: (orow 5 1 (.slice A121 l121.length c121) l121.length d121) :: Y) w) _)
    have hS2 := (⟨_, _, (Le.refl _), (St.up (St.up hst130 3 rfl) 1 rfl)⟩ : (fun w => ∃ ζ Y, Le z120 ζ ∧ Ht w0 (frz ζ :: (blk g5 [.slice A121 l121.length c121] 76) :: Y) w) _)
    refine Any.takeE 0 rfl rfl rfl rfl (by kernel_rfl) (fun _ _ _ _ _ h => h) ((Ex.move rfl).s) ?_
    refine Any.takeE 1 rfl rfl rfl rfl (by kernel_rfl) (fun _ _ _ _ _ h => h) ((Ex.fieldAddr rfl Try.underlying24 rfl sz9).s) ?_
    refine Any.take 0 2 rfl rfl rfl rfl rfl (by kernel_rfl) (fun _ _ _ _ _ h => h) (ExS.load rfl Try.underlying9 rfl (fun w hS => by obtain ⟨_, _, _, hs⟩ := hS; exact hs.cell (i := 1) rfl rfl)) hS0 ?_
    refine Any.takeE 4 rfl rfl rfl rfl (by kernel_rfl) (fun _ _ _ _ _ h => h) ((Ex.fieldAddr rfl Try.underlying24 rfl sz22).s) ?_
    refine Any.take 0 5 rfl rfl rfl rfl rfl (by kernel_rfl) (fun _ _ _ _ _ h => h) (ExS.load rfl Try.underlying22 rfl (fun w hS => by obtain ⟨_, _, _, hs⟩ := hS; exact hs.cell (i := 1) rfl rfl)) hS0 ?_
    refine Any.takeE 6 rfl rfl rfl rfl (by kernel_rfl) (fun _ _ _ _ _ h => h) ((Ex.cto8 rfl Try.underlying22 Try.underlying5).s) ?_
    refine Any.takeE 8 rfl rfl rfl rfl (by kernel_rfl) (fun _ _ _ _ _ h => h) ((Ex.fieldAddr rfl Try.underlying24 rfl sz3).s) ?_
    refine Any.take 0 9 rfl rfl rfl rfl rfl (by kernel_rfl) (fun _ _ _ _ _ h => h) (ExS.load rfl Try.underlying3 rfl (fun w hS => by obtain ⟨_, _, _, hs⟩ := hS; exact hs.cell (i := 1) rfl rfl)) hS0 ?_
    refine Any.takeE 11 rfl rfl rfl rfl (by kernel_rfl) (fun _ _ _ _ _ h => h) ((Ex.fieldAddr rfl Try.underlying24 rfl sz3).s) ?_
    refine Any.take 0 12 rfl rfl rfl rfl rfl (by kernel_rfl) (fun _ _ _ _ _ h => h) (ExS.load rfl Try.underlying3 rfl (fun w hS => by obtain ⟨_, _, _, hs⟩ := hS; exact hs.cell (i := 1) rfl rfl)) hS0 ?_
    obtain ⟨y132, hy132, hf⟩ := bnd hf
    refine Any.one 3 (by kernel_rfl) rfl rfl (One.of_ops rfl ?_)
    refine Ops.call rfl rfl Try.func35 (by kernel_rfl) (by kernel_rfl) rfl (go_pack_Writer_Text.walk (p0 := (⟨l121⟩ : packWriter)) (p1 := a13.Name) (hst := (St.up (St.up (St.up (St.up (St.up hst130 4 rfl) 2 rfl) 3 rfl) 4 rfl) 4 rfl)) (f1 := f121) (hf := hy132)) ?_
    rintro _ w132 ⟨z132, A133, c133, d133, rfl, hz132, f133, hst132⟩
    refine ⟨_, rfl, Ops.stop ?_⟩
    replace f1 := f1.mono hz132; replace f127 := f127.mono hz132; replace f2 := f2.mono hz132
    replace hy122_0 := hy122_0.trans hz132
    replace hz122 := hz122.trans hz132
    replace hm131 := hm131.trans hz132
    have hS0 := (⟨_, _, hm131, (St.up (St.up (St.up hst132 4 rfl) 4 rfl) 2 rfl)⟩ : (fun w => ∃ ζ Y, Le z120 ζ ∧ Ht w0 (frz ζ :: (blk g128 [vs a13.Name, vi a13.Kind, vi a13.From, vi a13.To] 24) :: (blk g4 [.slice A1 p0.Add.length c1, .slice A2 p0.Drop.length c2, vi p0.Floor] 29) :: Y) w) _)
    refine ⟨⟨.inr (fun _ => hS0), .inl (by decide), .inl (by decide), trivial⟩, ?_⟩
    obtain ⟨y134, hy134, hf⟩ := bnd hf
    refine Any.one 7 (by kernel_rfl) rfl rfl (One.of_ops rfl ?_)
    refine Ops.call rfl rfl Try.func36 (by kernel_rfl) (by kernel_rfl) rfl (go_pack_Writer_Byte.walk (p0 := y132) (p1 := toU8 a13.Kind) (hst := hst132) (f1 := f133) (hf := hy134)) ?_
    rintro _ w134 ⟨z134, A135, c135, d135, rfl, hz134, f135, hst134⟩
    refine ⟨_, rfl, Ops.stop ?_⟩
    replace f1 := f1.mono hz134; replace f127 := f127.mono hz134; replace f2 := f2.mono hz134
    replace hy122_0 := hy122_0.trans hz134
    replace hz122 := hz122.trans hz134
    replace hm131 := hm131.trans hz134
    have hS0 := (⟨_, _, hm131, (St.up (St.up (St.up hst134 4 rfl) 4 rfl) 2 rfl)⟩ : (fun w => ∃ ζ Y, Le z120 ζ ∧ Ht w0 (frz ζ :: (blk g128 [vs a13.Name, vi a13.Kind, vi a13.From, vi a13.To] 24) :: (blk g4 [.slice A1 p0.Add.length c1, .slice A2 p0.Drop.length c2, vi p0.Floor] 29) :: Y) w) _)
    refine ⟨⟨.inr (fun _ => hS0), .inl (by decide), .inl (by decide), trivial⟩, ?_⟩
    obtain ⟨y136, hy136, hf⟩ := bnd hf
    refine Any.one 10 (by kernel_rfl) rfl rfl (One.of_ops rfl ?_)
    refine Ops.call rfl rfl Try.func34 (by kernel_rfl) (by kernel_rfl) rfl (go_pack_Writer_Num.walk (p0 := y134) (p1 := a13.From) (hst := hst134) (f1 := f135) (hf := hy136)) ?_
    rintro _ w136 ⟨z136, A137, c137, d137, rfl, hz136, f137, hst136⟩
    refine ⟨_, rfl, Ops.stop ?_⟩
    replace f1 := f1.mono hz136; replace f127 := f127.mono hz136; replace f2 := f2.mono hz136
    replace hy122_0 := hy122_0.trans hz136
    replace hz122 := hz122.trans hz136
    replace hm131 := hm131.trans hz136
    have hS0 := (⟨_, _, hm131, (St.up (St.up (St.up hst136 4 rfl) 4 rfl) 2 rfl)⟩ : (fun w => ∃ ζ Y, Le z120 ζ ∧ Ht w0 (frz ζ :: (blk g128 [vs a13.Name, vi a13.Kind, vi a13.From, vi a13.To] 24) :: (blk g4 [.slice A1 p0.Add.length c1, .slice A2 p0.Drop.length c2, vi p0.Floor] 29) :: Y) w) _)
    refine ⟨⟨.inr (fun _ => hS0), .inl (by decide), .inl (by decide), trivial⟩, ?_⟩
    obtain ⟨y138, hy138, hf⟩ := bnd hf
    refine Any.one 13 (by kernel_rfl) rfl rfl (One.of_ops rfl ?_)
    refine Ops.call rfl rfl Try.func34 (by kernel_rfl) (by kernel_rfl) rfl (go_pack_Writer_Num.walk (p0 := y136) (p1 := a13.To) (hst := hst136) (f1 := f137) (hf := hy138)) ?_
    rintro _ w138 ⟨z138, A139, c139, d139, rfl, hz138, f139, hst138⟩
    refine ⟨_, rfl, Ops.stop ?_⟩
    replace f1 := f1.mono hz138; replace f127 := f127.mono hz138; replace f2 := f2.mono hz138
    replace hy122_0 := hy122_0.trans hz138
    replace hz122 := hz122.trans hz138
    replace hm131 := hm131.trans hz138
    have hS0 := (⟨_, _, hm131, (St.up (St.up (St.up hst138 4 rfl) 4 rfl) 2 rfl)⟩ : (fun w => ∃ ζ Y, Le z120 ζ ∧ Ht w0 (frz ζ :: (blk g128 [vs a13.Name, vi a13.Kind, vi a13.From, vi a13.To] 24) :: (blk g4 [.slice A1 p0.Add.length c1, .slice A2 p0.Drop.length c2, vi p0.Floor] 29) :: Y) w) _)
    refine ⟨⟨.inr (fun _ => hS0), .inl (by decide), .inl (by decide), trivial⟩, ?_⟩
    refine Any.done (by kernel_rfl) ?_
    refine Run.endBlk ?_
    refine Run.region ?_
    refine Ops.ex (Ex.add rfl rfl) rfl rfl rfl ?_
    refine Ops.ex (Ex.move rfl) rfl rfl rfl ?_
    refine Ops.nil ?_
    refine Run.re 21 rfl (congrArg vi (wr_succ' hl13 hc13)) ?_
    exact Run.sub (by exact subB_spec ⟨rfl, rfl, rfl, rfl, rfl, trivial⟩) (Run.stop ⟨p0.Add.length - (i13 + 1), by omega, i13 + 1, y138.b_, A139, c139, d139, z138, rfl, by omega, (hnxb13 _).symm.trans hf, rfl, hz122, hy122_0, f139, (St.up (St.up (St.up (St.up (St.forget hst138 3) 3 rfl) 2 rfl) 3 rfl) 3 rfl)⟩)
  · replace hf := forL_out hf (nlt_of_dec hc)
    try dsimp only at hf
    refine Run.exit _ rfl ?_
    refine Run.seq ?_
    refine Run.region ?_
    refine Ops.ex (Ex.move rfl) rfl rfl rfl ?_
    refine Ops.ex (Ex.fieldAddr rfl Try.underlying29 rfl sz27) rfl rfl rfl ?_
    refine Ops.load rfl Try.underlying27 rfl (hst122.cell (i := 3) rfl rfl) rfl ?_
    refine Ops.ex (Ex.len' rfl rfl rfl Try.underlying27) rfl rfl rfl ?_
    obtain ⟨y140, hy140, hf⟩ := bnd hf
    refine Ops.call rfl rfl Try.func34 (by kernel_rfl) (by kernel_rfl) rfl (go_pack_Writer_Num.walk (p0 := (⟨l121⟩ : packWriter)) (p1 := (p0.Drop.length : Int)) (hst := (St.up (St.up (St.up (St.up hst122 3 rfl) 2 rfl) 3 rfl) 3 rfl)) (f1 := f121) (hf := hy140)) ?_
    rintro _ w140 ⟨z140, A141, c141, d141, rfl, hz140, f141, hst140⟩
    refine ⟨_, rfl, ?_⟩
    replace f1 := f1.mono hz140; replace f2 := f2.mono hz140
    replace hy122_0 := hy122_0.trans hz140
    replace hz122 := hz122.trans hz140
    refine Ops.nil ?_
    refine Run.seq ?_
    refine Run.seq ?_
    refine Run.region ?_
    refine Ops.ex (Ex.fieldAddr rfl Try.underlying29 rfl sz27) rfl rfl rfl ?_
    refine Ops.load rfl Try.underlying27 rfl (hst140.cell (i := 3) rfl rfl) rfl ?_
    refine Ops.ex (Ex.len' rfl rfl rfl Try.underlying27) rfl rfl rfl ?_
    refine Ops.ex (Ex.move rfl) rfl rfl rfl ?_
    refine Ops.nil ?_
    refine Run.block ?_
    have hc142 := f2.cap
    have hm143 := Le.refl z140
    refine Run.sub (e' := [(3, .pointer (some ⟨g5, 0, none⟩)), (46, .slice A2 p0.Drop.length c2), (47, vi (p0.Drop.length : Int)), (48, vi ((0 : Nat) : Int))]) (subB_spec ⟨rfl, rfl, rfl, rfl, trivial⟩) ?_
    refine Run.loop (fun mb142 => (fun e' w' => ∃ (i142 : Nat) (l164 : List UInt8) (A164 : Option Addr) (c164 : Nat) (d164 : List Value) (z163 : Zp), mb142 = p0.Drop.length - i142 ∧ i142 ≤ p0.Drop.length ∧ forL (go_edits_Bytes.b2) (fun l164 => (go_pack_Writer_Bytes (⟨l164⟩ : packWriter)).bind fun y170 => some y170) i142 (p0.Drop.drop i142) l164 = some r ∧ e' = [(3, .pointer (some ⟨g5, 0, none⟩)), (46, .slice A2 p0.Drop.length c2), (47, vi (p0.Drop.length : Int)), (48, vi (i142 : Int))] ∧ Le z140 z163 ∧ Le z0 z163 ∧ Le z11 z163 ∧ Cs tU8 z163 d164 l164 ∧ Ht w0 (frz z163 :: (orow 5 1 (.slice A164 l164.length c164) l164.length d164) :: (blk g5 [.slice A164 l164.length c164] 76) :: X) w')) p0.Drop.length ⟨0, y140.b_, A141, c141, d141, z140, rfl, Nat.zero_le _, hf, rfl, hm143, hy122_0, hz122, f141, (St.up (St.up (St.up (St.forget hst140 3) 1 rfl) 2 rfl) 2 rfl)⟩ ?_
    rintro _ e' w165 ⟨i142, l164, A164, c164, d164, z163, rfl, hi142, hf, rfl, hz165, hy165_0, hy165_1, f164, hst165⟩
    replace f2 := f2.mono hz165
    refine Run.seq ?_
    refine Run.region ?_
    refine Ops.ex (Ex.lss rfl rfl) rfl rfl rfl ?_
    refine Ops.nil ?_
    refine Run.seq ?_
    refine Run.cond rfl (fun hc => ?_) (fun hc => ?_)
    · have hl142 := lt_of_dec hc
      obtain ⟨a142, nxb142, ha142, hnxb142, hf⟩ := forL_in hf hl142
      unfold go_edits_Bytes.b2 at hf
      try dsimp only at hf
      refine Run.skip ?_
      refine Run.seq ?_
      refine Run.block ?_
      refine Run.seq ?_
      refine Run.region ?_
      obtain ⟨g167, p167, o167, cs167, hA167, ho167, hr167, f167⟩ := SlH.elem f2.toH (atI_nat ha142)
      obtain rfl := hr167
      refine Ops.ex (Ex.ixA hA167 ho167 (atI_nat ha142) rfl rfl rfl Try.underlying27 sz9) rfl rfl rfl ?_
      refine Ops.load rfl Try.underlying9 rfl ((f167.mono hst165.le) 0 _ rfl) rfl ?_
      refine Ops.ex (Ex.assign rfl) rfl rfl rfl ?_
      refine Ops.nil ?_
      refine Run.region ?_
      refine Ops.ex (Ex.move rfl) rfl rfl rfl ?_
      refine Ops.ex (Ex.move rfl) rfl rfl rfl ?_
      obtain ⟨y168, hy168, hf⟩ := bnd hf
      refine Ops.call rfl rfl Try.func35 (by kernel_rfl) (by kernel_rfl) rfl (go_pack_Writer_Text.walk (p0 := (⟨l164⟩ : packWriter)) (p1 := a142) (hst := (St.up (St.up (St.up hst165 1 rfl) 2 rfl) 2 rfl)) (f1 := f164) (hf := hy168)) ?_
      rintro _ w168 ⟨z168, A169, c169, d169, rfl, hz168, f169, hst168⟩
      refine ⟨_, rfl, ?_⟩
      replace f2 := f2.mono hz168; replace f167 := f167.mono hz168
      replace hy165_0 := hy165_0.trans hz168
      replace hy165_1 := hy165_1.trans hz168
      replace hz165 := hz165.trans hz168
      refine Ops.nil ?_
      refine Run.endBlk ?_
      refine Run.region ?_
      refine Ops.ex (Ex.add rfl rfl) rfl rfl rfl ?_
      refine Ops.ex (Ex.move rfl) rfl rfl rfl ?_
      refine Ops.nil ?_
      refine Run.re 48 rfl (congrArg vi (wr_succ' hl142 hc142)) ?_
      exact Run.sub (by exact subB_spec ⟨rfl, rfl, rfl, rfl, trivial⟩) (Run.stop ⟨p0.Drop.length - (i142 + 1), by omega, i142 + 1, y168.b_, A169, c169, d169, z168, rfl, by omega, (hnxb142 _).symm.trans hf, rfl, hz165, hy165_0, hy165_1, f169, (St.up (St.up (St.up hst168 1 rfl) 2 rfl) 2 rfl)⟩)
    · replace hf := forL_out hf (nlt_of_dec hc)
      try dsimp only at hf
      refine Run.exit _ rfl ?_
      refine Run.seq ?_
      refine Run.region ?_
      refine Ops.ex (Ex.move rfl) rfl rfl rfl ?_
      obtain ⟨y170, hy170, hf⟩ := bnd hf
      refine Ops.call rfl rfl Try.func37 (by kernel_rfl) (by kernel_rfl) rfl (go_pack_Writer_Bytes.walk (p0 := (⟨l164⟩ : packWriter)) (hst := (St.up (St.up (St.up hst165 1 rfl) 2 rfl) 2 rfl)) (f1 := f164) (hf := hy170)) ?_
      rintro _ w170 ⟨z170, A171, c171, rfl, hz170, f171, hst170⟩
      refine ⟨_, rfl, ?_⟩
      replace f2 := f2.mono hz170; replace f164 := f164.mono hz170
      replace hy165_0 := hy165_0.trans hz170
      replace hy165_1 := hy165_1.trans hz170
      replace hz165 := hz165.trans hz170
      refine Ops.ex (Ex.assign rfl) rfl rfl rfl ?_
      refine Ops.nil ?_
      obtain rfl := Option.some.inj hf
      exact Run.retV [.slice A171 y170.length c171] rfl ⟨rfl, trivial⟩ ⟨z170, A171, c171, rfl, hy165_0, f171, (St.forget (St.forget hst170 2) 1)⟩
def go_edits_Read.j1 (y7 : Int × packReader) (l1265 : List apiRef) (l1266 : List Str) (b1267 : Bool) : Option (editsEdit × Bool) :=
  if b1267 then (some ((⟨[], [], 0⟩ : editsEdit), false)) else (some ((⟨l1265, l1266, y7.1⟩ : editsEdit), true))
def go_edits_Read.j2 (y7 : Int × packReader) (l1299 : List apiRef) (l1300 : List Str) (b1301 : Bool) : Option (editsEdit × Bool) :=
  if b1301 then (some ((⟨[], [], 0⟩ : editsEdit), false)) else (some ((⟨l1299, l1300, y7.1⟩ : editsEdit), true))
def go_edits_Read.b2 (p0 : List UInt8) (y7 : Int × packReader) (l1034 : List apiRef) : (Int × List UInt8 × Bool × List Str) → (Int × List UInt8 × Bool × List Str → Option (editsEdit × Bool)) → Option (editsEdit × Bool) :=
  fun (x1232, l1233, b1234, l1235) nxb1068 => if 0 < x1232 then ((go_pack_Reader_Bad (⟨l1233, b1234⟩ : packReader)).bind fun y1239 => if y1239 then ((go_pack_Reader_Done (⟨l1233, b1234⟩ : packReader)).bind fun y1269 => if y1269 then ((go_edits_Bytes (⟨l1034, l1235, y7.1⟩ : editsEdit)).bind fun y1273 => go_edits_Read.j1 y7 l1034 l1235 (!(decide (y1273 = p0)))) else (go_edits_Read.j1 y7 l1034 l1235 true)) else ((go_pack_Reader_Text (⟨l1233, b1234⟩ : packReader)).bind fun y1243 => (apB 16 l1235 [y1243.1]).bind fun l1248 => nxb1068 (wr (x1232 - 1), y1243.2.b_, y1243.2.bad_, l1248))) else ((go_pack_Reader_Done (⟨l1233, b1234⟩ : packReader)).bind fun y1303 => if y1303 then ((go_edits_Bytes (⟨l1034, l1235, y7.1⟩ : editsEdit)).bind fun y1307 => go_edits_Read.j2 y7 l1034 l1235 (!(decide (y1307 = p0)))) else (go_edits_Read.j2 y7 l1034 l1235 true))
def go_edits_Read.j3 (y7 : Int × packReader) (l1519 : List apiRef) (l1520 : List Str) (b1521 : Bool) : Option (editsEdit × Bool) :=
  if b1521 then (some ((⟨[], [], 0⟩ : editsEdit), false)) else (some ((⟨l1519, l1520, y7.1⟩ : editsEdit), true))
def go_edits_Read.j4 (y7 : Int × packReader) (l1553 : List apiRef) (l1554 : List Str) (b1555 : Bool) : Option (editsEdit × Bool) :=
  if b1555 then (some ((⟨[], [], 0⟩ : editsEdit), false)) else (some ((⟨l1553, l1554, y7.1⟩ : editsEdit), true))
def go_edits_Read.b3 (p0 : List UInt8) (y7 : Int × packReader) (l1034 : List apiRef) : (Int × List UInt8 × Bool × List Str) → (Int × List UInt8 × Bool × List Str → Option (editsEdit × Bool)) → Option (editsEdit × Bool) :=
  fun (x1486, l1487, b1488, l1489) nxb1322 => if 0 < x1486 then ((go_pack_Reader_Bad (⟨l1487, b1488⟩ : packReader)).bind fun y1493 => if y1493 then ((go_pack_Reader_Done (⟨l1487, b1488⟩ : packReader)).bind fun y1523 => if y1523 then ((go_edits_Bytes (⟨l1034, l1489, y7.1⟩ : editsEdit)).bind fun y1527 => go_edits_Read.j3 y7 l1034 l1489 (!(decide (y1527 = p0)))) else (go_edits_Read.j3 y7 l1034 l1489 true)) else ((go_pack_Reader_Text (⟨l1487, b1488⟩ : packReader)).bind fun y1497 => (apB 16 l1489 [y1497.1]).bind fun l1502 => nxb1322 (wr (x1486 - 1), y1497.2.b_, y1497.2.bad_, l1502))) else ((go_pack_Reader_Done (⟨l1487, b1488⟩ : packReader)).bind fun y1557 => if y1557 then ((go_edits_Bytes (⟨l1034, l1489, y7.1⟩ : editsEdit)).bind fun y1561 => go_edits_Read.j4 y7 l1034 l1489 (!(decide (y1561 = p0)))) else (go_edits_Read.j4 y7 l1034 l1489 true))
def go_edits_Read.b1 (p0 : List UInt8) (y7 : Int × packReader) : (Int × List UInt8 × Bool × List apiRef) → (Int × List UInt8 × Bool × List apiRef → Option (editsEdit × Bool)) → Option (editsEdit × Bool) :=
  fun (x1031, l1032, b1033, l1034) nxb17 => if 0 < x1031 then ((go_pack_Reader_Bad (⟨l1032, b1033⟩ : packReader)).bind fun y1038 => if y1038 then ((go_pack_Reader_Num (⟨l1032, b1033⟩ : packReader)).bind fun y1064 => loopF (go_edits_Read.b2 p0 y7 l1034) fuel (y1064.1, y1064.2.b_, y1064.2.bad_, [])) else ((go_pack_Reader_Text (⟨l1032, b1033⟩ : packReader)).bind fun y1040 => (go_pack_Reader_Byte y1040.2).bind fun y1046 => (go_pack_Reader_Num y1046.2).bind fun y1051 => (go_pack_Reader_Num y1051.2).bind fun y1056 => (apB 40 l1034 [(⟨y1040.1, (y1046.1.toNat : Int), y1051.1, y1056.1⟩ : apiRef)]).bind fun l1062 => nxb17 (wr (x1031 - 1), y1056.2.b_, y1056.2.bad_, l1062))) else ((go_pack_Reader_Num (⟨l1032, b1033⟩ : packReader)).bind fun y1318 => loopF (go_edits_Read.b3 p0 y7 l1034) fuel (y1318.1, y1318.2.b_, y1318.2.bad_, []))
def go_edits_Read (p0 : List UInt8) : Option (editsEdit × Bool) :=
  (go_pack_Of p0).bind fun y3 => (go_pack_Reader_Num y3).bind fun y7 => (go_pack_Reader_Num y7.2).bind fun y13 => loopF (go_edits_Read.b1 p0 y7) fuel (y13.1, y13.2.b_, y13.2.bad_, [])
set_option maxRecDepth 100000 in
set_option maxHeartbeats 4000000 in
theorem go_edits_Read.walk {w0 w : World} {X : List Res} {z0 : Zp} {p0 : List UInt8} {A1 : Option Addr} {c1 : Nat} {r : editsEdit × Bool} (hst : Ht w0 (frz z0 :: X) w) (f1 : Sl tU8 z0 A1 c1 p0) (hf : go_edits_Read p0 = some r) :
    Calls Try.prog 19 #[.slice A1 p0.length c1] w fun e w' => ∃ (z' : Zp) (A9001 : Option Addr) (c9001 : Nat) (A9002 : Option Addr) (c9002 : Nat), e = .returned (.tuple #[.agg #[.slice A9001 r.1.Add.length c9001, .slice A9002 r.1.Drop.length c9002, vi r.1.Floor], vb r.2]) ∧ Le z0 z' ∧ Sl tapiRef z' A9001 c9001 r.1.Add ∧ Sl tS z' A9002 c9002 r.1.Drop ∧ Ht w0 (frz z' :: X) w' := by
  refine calls_np Try.func19 rfl rfl ?_
  have hle0 := Le.refl z0
  unfold go_edits_Read at hf
  refine Run.seq ?_
  refine Run.region ?_
  refine Ops.allocF [.slice none 0 0, .slice none 0 0, vi 0] hst zr29 rfl rfl (fun g2 w2 hst2 => ?_)
  refine Ops.ex (Ex.assign rfl) rfl rfl rfl ?_
  refine Ops.nil ?_
  refine Run.seq ?_
  refine Run.region ?_
  refine Ops.ex (Ex.move rfl) rfl rfl rfl ?_
  obtain ⟨y3, hy3, hf⟩ := bnd hf
  refine Ops.call rfl rfl Try.func38 (by kernel_rfl) (by kernel_rfl) rfl (go_pack_Of.walk (p0 := p0) (hst := hst2) (f1 := f1) (hf := hy3)) ?_
  rintro _ w3 ⟨z3, g4, A5, c5, rfl, hz3, f5, hst3⟩
  refine ⟨_, rfl, ?_⟩
  replace f1 := f1.mono hz3
  replace hle0 := hle0.trans hz3
  refine Ops.ex (Ex.assign rfl) rfl rfl rfl ?_
  refine Ops.nil ?_
  refine Run.seq ?_
  refine Run.region ?_
  refine Ops.ex (Ex.move rfl) rfl rfl rfl ?_
  obtain ⟨y7, hy7, hf⟩ := bnd hf
  refine Ops.call rfl rfl Try.func39 (by kernel_rfl) (by kernel_rfl) rfl (go_pack_Reader_Num.walk (p0 := y3) (hst := hst3) (f1 := f5) (hf := hy7)) ?_
  rintro _ w7 ⟨z7, A9, c9, rfl, hz7, f9, hst7⟩
  refine ⟨_, rfl, ?_⟩
  replace f1 := f1.mono hz7
  replace hle0 := hle0.trans hz7
  refine Ops.ex (Ex.build [.slice none 0 0, .slice none 0 0, vi y7.1] rfl Try.underlying29 zr29 (pl29 Try.underlying29) (by kernel_rfl)) rfl rfl rfl ?_
  refine Ops.allocF [.slice none 0 0, .slice none 0 0, vi 0] hst7 zr29 rfl rfl (fun g11 w11 hst11 => ?_)
  refine Ops.store 1 [.slice none 0 0, .slice none 0 0, vi y7.1] hst11 rfl rfl rfl rfl sz29 rfl (by simp [Value.oneCell']) (by simp) (fun w12 hst12 => ?_)
  refine Ops.nil ?_
  refine Run.seq ?_
  refine Run.seq ?_
  refine Run.region ?_
  refine Ops.ex (Ex.move rfl) rfl rfl rfl ?_
  obtain ⟨y13, hy13, hf⟩ := bnd hf
  refine Ops.call rfl rfl Try.func39 (by kernel_rfl) (by kernel_rfl) rfl (go_pack_Reader_Num.walk (p0 := y7.2) (hst := (St.up (St.up (St.up (St.up hst12 3 rfl) 2 rfl) 3 rfl) 3 rfl)) (f1 := f9) (hf := hy13)) ?_
  rintro _ w13 ⟨z13, A15, c15, rfl, hz13, f15, hst13⟩
  refine ⟨_, rfl, ?_⟩
  replace f1 := f1.mono hz13
  replace hle0 := hle0.trans hz13
  refine Ops.ex (Ex.assign rfl) rfl rfl rfl ?_
  refine Ops.nil ?_
  refine Run.block ?_
  have hm18 := Le.refl z13
  have hst1035 := hst13.row0 24 4
  refine Run.sub (e' := [(0, .slice A1 p0.length c1), (2, .pointer (some ⟨g2, 0, none⟩)), (4, .pointer (some ⟨g4, 0, none⟩)), (5, .pointer (some ⟨g11, 0, none⟩)), (6, vi y13.1)]) (subB_spec ⟨rfl, rfl, rfl, rfl, rfl, trivial⟩) ?_
  refine Run.loop (fun mb17 => (fun e' w' => ∃ (x1031 : Int) (l1032 : List UInt8) (b1033 : Bool) (l1034 : List apiRef) (A1032 : Option Addr) (c1032 : Nat) (A1034 : Option Addr) (c1034 : Nat) (d1034 : List Value) (z1030 : Zp), loopF (go_edits_Read.b1 p0 y7) mb17 (x1031, l1032, b1033, l1034) = some r ∧ e' = [(0, .slice A1 p0.length c1), (2, .pointer (some ⟨g2, 0, none⟩)), (4, .pointer (some ⟨g4, 0, none⟩)), (5, .pointer (some ⟨g11, 0, none⟩)), (6, vi x1031)] ∧ Le z13 z1030 ∧ Le z0 z1030 ∧ Sl tU8 z1030 A1032 c1032 l1032 ∧ Cs tapiRef z1030 d1034 l1034 ∧ Ht w0 (frz z1030 :: (orow 24 4 (.slice A1034 l1034.length c1034) l1034.length d1034) :: (blk g4 [.slice A1032 l1032.length c1032, vb b1033] 97) :: (blk g11 [.slice A1034 l1034.length c1034, .slice none 0 0, vi y7.1] 29) :: (blk g2 [.slice none 0 0, .slice none 0 0, vi 0] 29) :: X) w')) fuel ⟨y13.1, y13.2.b_, y13.2.bad_, [], A15, c15, none, 0, [], z13, hf, rfl, hm18, hle0, f15, (Cs.nil _ _), hst1035⟩ ?_
  rintro mb17 e' w1037 ⟨x1031, l1032, b1033, l1034, A1032, c1032, A1034, c1034, d1034, z1030, hf, rfl, hz1037, hy1037_0, f1032, f1034, hst1037⟩
  replace f1 := f1.mono hz1037
  obtain ⟨mb17', nxb17, rfl, hnxb17, hf⟩ := loopF_in hf
  unfold go_edits_Read.b1 at hf
  try dsimp only at hf
  refine Run.seq ?_
  refine Run.seq ?_
  refine Run.region ?_
  refine Ops.ex (Ex.move rfl) rfl rfl rfl ?_
  refine Ops.ex (Ex.gtr rfl rfl) rfl rfl rfl ?_
  refine Ops.ex (Ex.move rfl) rfl rfl rfl ?_
  refine Ops.case 18 rfl (fun hc => ?_) (fun hc => ?_)
  · replace hf := ifT (dec_T hc) hf
    refine Ops.on rfl ?_
    refine Ops.ex (Ex.move rfl) rfl rfl rfl ?_
    refine Ops.on rfl ?_
    obtain ⟨y1038, hy1038, hf⟩ := bnd hf
    refine Ops.call rfl rfl Try.func40 (by kernel_rfl) (by kernel_rfl) rfl (go_pack_Reader_Bad.walk (p0 := (⟨l1032, b1033⟩ : packReader)) (hst := (St.up (St.up (St.up (St.up (St.up hst1037 4 rfl) 4 rfl) 3 rfl) 4 rfl) 4 rfl)) (f1 := f1032) (hf := hy1038)) ?_
    rintro _ w1038 ⟨z1038, rfl, hz1038, hst1038⟩
    refine ⟨_, rfl, ?_⟩
    replace f1 := f1.mono hz1038; replace f1032 := f1032.mono hz1038; replace f1034 := f1034.mono hz1038
    replace hy1037_0 := hy1037_0.trans hz1038
    replace hz1037 := hz1037.trans hz1038
    refine Ops.on rfl ?_
    refine Ops.ex (Ex.not rfl) rfl rfl rfl ?_
    refine Ops.ex (Ex.pickT rfl rfl) rfl rfl rfl ?_
    refine Ops.nil ?_
    refine Run.cond rfl (fun hc => ?_) (fun hc => ?_)
    · replace hf := ifFb (bn_T hc) hf
      refine Run.skip ?_
      refine Run.seq ?_
      refine Run.block ?_
      refine Run.seq ?_
      refine Run.region ?_
      refine Ops.ex (Ex.move rfl) rfl rfl rfl ?_
      obtain ⟨y1040, hy1040, hf⟩ := bnd hf
      refine Ops.call rfl rfl Try.func41 (by kernel_rfl) (by kernel_rfl) rfl (go_pack_Reader_Text.walk (p0 := (⟨l1032, b1033⟩ : packReader)) (hst := hst1038) (f1 := f1032) (hf := hy1040)) ?_
      rintro _ w1040 ⟨z1040, A1042, c1042, rfl, hz1040, f1042, hst1040⟩
      refine ⟨_, rfl, ?_⟩
      replace f1 := f1.mono hz1040; replace f1034 := f1034.mono hz1040
      replace hy1037_0 := hy1037_0.trans hz1040
      replace hz1037 := hz1037.trans hz1040
      refine Ops.ex (Ex.build [vs y1040.1, vi 0, vi 0, vi 0] rfl Try.underlying24 zr24 (pl24 Try.underlying24) (by kernel_rfl)) rfl rfl rfl ?_
      refine Ops.allocF [vs [], vi 0, vi 0, vi 0] hst1040 zr24 rfl rfl (fun g1044 w1044 hst1044 => ?_)
      refine Ops.store 1 [vs y1040.1, vi 0, vi 0, vi 0] hst1044 rfl rfl rfl rfl sz24 rfl (by simp [Value.oneCell']) (by simp) (fun w1045 hst1045 => ?_)
      refine Ops.nil ?_
      refine Run.seq ?_
      refine Run.region ?_
      refine Ops.ex (Ex.move rfl) rfl rfl rfl ?_
      obtain ⟨y1046, hy1046, hf⟩ := bnd hf
      refine Ops.call rfl rfl Try.func42 (by kernel_rfl) (by kernel_rfl) rfl (go_pack_Reader_Byte.walk (p0 := y1040.2) (hst := (St.up (St.up (St.up (St.up (St.up (St.up hst1045 5 rfl) 5 rfl) 5 rfl) 4 rfl) 5 rfl) 5 rfl)) (f1 := f1042) (hf := hy1046)) ?_
      rintro _ w1046 ⟨z1046, A1048, c1048, rfl, hz1046, f1048, hst1046⟩
      refine ⟨_, rfl, ?_⟩
      replace f1 := f1.mono hz1046; replace f1034 := f1034.mono hz1046
      replace hy1037_0 := hy1037_0.trans hz1046
      replace hz1037 := hz1037.trans hz1046
      refine Ops.ex (Ex.cu8 rfl Try.underlying5 Try.underlying22) rfl rfl rfl ?_
      refine Ops.ex (Ex.fieldAddr rfl Try.underlying24 rfl sz22) rfl rfl rfl ?_
      refine Ops.store 2 [vi (y1046.1.toNat : Int)] hst1046 rfl rfl rfl rfl sz22 rfl (by simp [Value.oneCell']) (by simp) (fun w1050 hst1050 => ?_)
      refine Ops.nil ?_
      refine Run.seq ?_
      refine Run.region ?_
      refine Ops.ex (Ex.move rfl) rfl rfl rfl ?_
      obtain ⟨y1051, hy1051, hf⟩ := bnd hf
      refine Ops.call rfl rfl Try.func39 (by kernel_rfl) (by kernel_rfl) rfl (go_pack_Reader_Num.walk (p0 := y1046.2) (hst := hst1050) (f1 := f1048) (hf := hy1051)) ?_
      rintro _ w1051 ⟨z1051, A1053, c1053, rfl, hz1051, f1053, hst1051⟩
      refine ⟨_, rfl, ?_⟩
      replace f1 := f1.mono hz1051; replace f1034 := f1034.mono hz1051
      replace hy1037_0 := hy1037_0.trans hz1051
      replace hz1037 := hz1037.trans hz1051
      refine Ops.ex (Ex.fieldAddr rfl Try.underlying24 rfl sz3) rfl rfl rfl ?_
      refine Ops.store 2 [vi y1051.1] hst1051 rfl rfl rfl rfl sz3 rfl (by simp [Value.oneCell']) (by simp) (fun w1055 hst1055 => ?_)
      refine Ops.nil ?_
      refine Run.seq ?_
      refine Run.region ?_
      refine Ops.ex (Ex.move rfl) rfl rfl rfl ?_
      obtain ⟨y1056, hy1056, hf⟩ := bnd hf
      refine Ops.call rfl rfl Try.func39 (by kernel_rfl) (by kernel_rfl) rfl (go_pack_Reader_Num.walk (p0 := y1051.2) (hst := hst1055) (f1 := f1053) (hf := hy1056)) ?_
      rintro _ w1056 ⟨z1056, A1058, c1058, rfl, hz1056, f1058, hst1056⟩
      refine ⟨_, rfl, ?_⟩
      replace f1 := f1.mono hz1056; replace f1034 := f1034.mono hz1056
      replace hy1037_0 := hy1037_0.trans hz1056
      replace hz1037 := hz1037.trans hz1056
      refine Ops.ex (Ex.fieldAddr rfl Try.underlying24 rfl sz3) rfl rfl rfl ?_
      refine Ops.store 2 [vi y1056.1] hst1056 rfl rfl rfl rfl sz3 rfl (by simp [Value.oneCell']) (by simp) (fun w1060 hst1060 => ?_)
      refine Ops.nil ?_
      refine Run.region ?_
      refine Ops.ex (Ex.fieldAddr rfl Try.underlying29 rfl sz26) rfl rfl rfl ?_
      refine Ops.load rfl Try.underlying26 rfl (hst1060.cell (i := 4) rfl rfl) rfl ?_
      refine Ops.loadAgg _ rfl Try.underlying24 rfl sz24 rfl (hst1060.cells (i := 2) rfl 0 4) rfl ?_
      refine Ops.sliceF [vs y1040.1, vi (y1046.1.toNat : Int), vi y1051.1, vi y1056.1] hst1060 rfl Try.underlying26 sz24 zr24 rfl rfl (by kernel_rfl) rfl (by simp [Value.oneCell']) rfl (fun A1061 w1061 hst1061 => ?_)
      have f1061 : Cs tapiRef z1056 [vs y1040.1, vi (y1046.1.toNat : Int), vi y1051.1, vi y1056.1] [(⟨y1040.1, (y1046.1.toNat : Int), y1051.1, y1056.1⟩ : apiRef)] := (Cs.cons (c := [vs y1040.1, vi (y1046.1.toNat : Int), vi y1051.1, vi y1056.1]) rfl (Cs.nil _ _))
      obtain ⟨l1062, hy1062, hf⟩ := bnd hf
      refine Ops.app 4 hst1061 rfl f1034 rfl (own_slh f1061 rfl (hst1061.get (i := 1) rfl)) rfl hy1062 rfl rfl rfl rfl Try.underlying26 inf24 rfl (by decide) (by decide) rfl (fun A1062 c1062 d1062 w1062 f1062 hst1062 => ?_)
      refine Ops.ex (Ex.fieldAddr rfl Try.underlying29 rfl sz26) rfl rfl rfl ?_
      refine Ops.store 5 [.slice A1062 l1062.length c1062] hst1062 rfl rfl rfl rfl sz26 rfl (by simp [Value.oneCell']) (by simp) (fun w1063 hst1063 => ?_)
      refine Ops.nil ?_
      refine Run.endBlk ?_
      refine Run.region ?_
      refine Ops.ex (Ex.move rfl) rfl rfl rfl ?_
      refine Ops.ex (Ex.sub rfl rfl) rfl rfl rfl ?_
      refine Ops.ex (Ex.assign rfl) rfl rfl rfl ?_
      refine Ops.nil ?_
      exact Run.sub (by exact subB_spec ⟨rfl, rfl, rfl, rfl, rfl, trivial⟩) (Run.stop ⟨mb17', Nat.lt_succ_self _, wr (x1031 - 1), y1056.2.b_, y1056.2.bad_, l1062, A1058, c1058, A1062, c1062, d1062, z1056, (hnxb17 _).symm.trans hf, rfl, hz1037, hy1037_0, f1058, f1062, (St.up (St.up (St.up (St.up (St.up (St.forget (St.forget hst1063 3) 1) 4 rfl) 4 rfl) 3 rfl) 4 rfl) 4 rfl)⟩)
    · replace hf := ifTb (bn_F hc) hf
      refine Run.exit _ rfl ?_
      refine Run.seq ?_
      refine Run.seq ?_
      refine Run.region ?_
      refine Ops.ex (Ex.move rfl) rfl rfl rfl ?_
      obtain ⟨y1064, hy1064, hf⟩ := bnd hf
      refine Ops.call rfl rfl Try.func39 (by kernel_rfl) (by kernel_rfl) rfl (go_pack_Reader_Num.walk (p0 := (⟨l1032, b1033⟩ : packReader)) (hst := hst1038) (f1 := f1032) (hf := hy1064)) ?_
      rintro _ w1064 ⟨z1064, A1066, c1066, rfl, hz1064, f1066, hst1064⟩
      refine ⟨_, rfl, ?_⟩
      replace f1 := f1.mono hz1064; replace f1034 := f1034.mono hz1064
      replace hy1037_0 := hy1037_0.trans hz1064
      replace hz1037 := hz1037.trans hz1064
      refine Ops.ex (Ex.assign rfl) rfl rfl rfl ?_
      refine Ops.nil ?_
      refine Run.block ?_
      have hm1069 := Le.refl z1064
      have hst1236 := hst1064.row0 9 1
      refine Run.sub (e' := [(0, .slice A1 p0.length c1), (2, .pointer (some ⟨g2, 0, none⟩)), (4, .pointer (some ⟨g4, 0, none⟩)), (5, .pointer (some ⟨g11, 0, none⟩)), (8, vi y1064.1)]) (subB_spec ⟨rfl, rfl, rfl, rfl, rfl, trivial⟩) ?_
      refine Run.loop (fun mb1068 => (fun e' w' => ∃ (x1232 : Int) (l1233 : List UInt8) (b1234 : Bool) (l1235 : List Str) (A1233 : Option Addr) (c1233 : Nat) (A1235 : Option Addr) (c1235 : Nat) (d1235 : List Value) (z1231 : Zp), loopF (go_edits_Read.b2 p0 y7 l1034) mb1068 (x1232, l1233, b1234, l1235) = some r ∧ e' = [(0, .slice A1 p0.length c1), (2, .pointer (some ⟨g2, 0, none⟩)), (4, .pointer (some ⟨g4, 0, none⟩)), (5, .pointer (some ⟨g11, 0, none⟩)), (8, vi x1232)] ∧ Le z1064 z1231 ∧ Le z0 z1231 ∧ Le z13 z1231 ∧ Sl tU8 z1231 A1233 c1233 l1233 ∧ Cs tS z1231 d1235 l1235 ∧ Ht w0 (frz z1231 :: (orow 9 1 (.slice A1235 l1235.length c1235) l1235.length d1235) :: (blk g4 [.slice A1233 l1233.length c1233, vb b1234] 97) :: (orow 24 4 (.slice A1034 l1034.length c1034) l1034.length d1034) :: (blk g11 [.slice A1034 l1034.length c1034, .slice A1235 l1235.length c1235, vi y7.1] 29) :: (blk g2 [.slice none 0 0, .slice none 0 0, vi 0] 29) :: X) w')) fuel ⟨y1064.1, y1064.2.b_, y1064.2.bad_, [], A1066, c1066, none, 0, [], z1064, hf, rfl, hm1069, hy1037_0, hz1037, f1066, (Cs.nil _ _), hst1236⟩ ?_
      rintro mb1068 e' w1238 ⟨x1232, l1233, b1234, l1235, A1233, c1233, A1235, c1235, d1235, z1231, hf, rfl, hz1238, hy1238_0, hy1238_1, f1233, f1235, hst1238⟩
      replace f1 := f1.mono hz1238; replace f1034 := f1034.mono hz1238
      obtain ⟨mb1068', nxb1068, rfl, hnxb1068, hf⟩ := loopF_in hf
      unfold go_edits_Read.b2 at hf
      try dsimp only at hf
      refine Run.seq ?_
      refine Run.seq ?_
      refine Run.region ?_
      refine Ops.ex (Ex.move rfl) rfl rfl rfl ?_
      refine Ops.ex (Ex.gtr rfl rfl) rfl rfl rfl ?_
      refine Ops.ex (Ex.move rfl) rfl rfl rfl ?_
      refine Ops.case 48 rfl (fun hc => ?_) (fun hc => ?_)
      · replace hf := ifT (dec_T hc) hf
        refine Ops.on rfl ?_
        refine Ops.ex (Ex.move rfl) rfl rfl rfl ?_
        refine Ops.on rfl ?_
        obtain ⟨y1239, hy1239, hf⟩ := bnd hf
        refine Ops.call rfl rfl Try.func40 (by kernel_rfl) (by kernel_rfl) rfl (go_pack_Reader_Bad.walk (p0 := (⟨l1233, b1234⟩ : packReader)) (hst := (St.up (St.up (St.up (St.up (St.up (St.up hst1238 5 rfl) 5 rfl) 5 rfl) 4 rfl) 5 rfl) 5 rfl)) (f1 := f1233) (hf := hy1239)) ?_
        rintro _ w1239 ⟨z1239, rfl, hz1239, hst1239⟩
        refine ⟨_, rfl, ?_⟩
        replace f1 := f1.mono hz1239; replace f1233 := f1233.mono hz1239; replace f1235 := f1235.mono hz1239; replace f1034 := f1034.mono hz1239
        replace hy1238_0 := hy1238_0.trans hz1239
        replace hy1238_1 := hy1238_1.trans hz1239
        replace hz1238 := hz1238.trans hz1239
        refine Ops.on rfl ?_
        refine Ops.ex (Ex.not rfl) rfl rfl rfl ?_
        refine Ops.ex (Ex.pickT rfl rfl) rfl rfl rfl ?_
        refine Ops.nil ?_
        refine Run.cond rfl (fun hc => ?_) (fun hc => ?_)
        · replace hf := ifFb (bn_T hc) hf
          refine Run.skip ?_
          refine Run.seq ?_
          refine Run.block ?_
          have hm1242 := Le.refl z1239
          refine Run.drawH [([], fun w => ∃ ζ Y, Le z1239 ζ ∧ Ht w0 (frz ζ :: (orow 24 4 (.slice A1034 l1034.length c1034) l1034.length d1034) :: (blk g2 [.slice none 0 0, .slice none 0 0, vi 0] 29) :: Y) w), ([3, 4, 5, 7], fun w => ∃ ζ Y, Le z1239 ζ ∧ Ht w0 (frz ζ :: (blk g4 [.slice A1233 l1233.length c1233, vb b1234] 97) :: Y) w), ([5, 7], fun w => ∃ ζ Y, Le z1239 ζ ∧ Ht w0 (frz ζ :: (orow 9 1 (.slice A1235 l1235.length c1235) l1235.length d1235) :: Y) w), ([7], fun w => ∃ ζ Y, Le z1239 ζ ∧ Ht w0 (frz ζ :: (blk g11 [.slice A1034 l1034.length c1034, .slice A1235 l1235.length c1235, vi y7.1] 29) :: Y) w)] (by kernel_rfl) hst1239 (fun w1241 hst1241 => ?_)
          have hS0 := (⟨_, _, (Le.refl _), (St.up (St.up (St.up hst1241 5 rfl) 4 rfl) 2 rfl)⟩ : (fun w => ∃ ζ Y, Le z1239 ζ ∧ Ht w0 (frz ζ :: (orow 24 4 (.slice A1034 l1034.length c1034) l1034.length d1034) :: (blk g2 [.slice none 0 0, .slice none 0 0, vi 0] 29) :: Y) w) _)
          have hS1 := (⟨_, _, (Le.refl _), (St.up (St.up hst1241 1 rfl) 1 rfl)⟩ : (fun w => ∃ ζ Y, Le z1239 ζ ∧ Ht w0 (frz ζ :: (blk g4 [.slice A1233 l1233.length c1233, vb b1234] 97) :: Y) w) _)
          have hS2 := (⟨_, _, (Le.refl _), (St.up (St.up hst1241 2 rfl) 1 rfl)⟩ : (fun w => ∃ ζ Y, Le z1239 ζ ∧ Ht w0 (frz ζ :: (orow 9 1 (.slice A1235 l1235.length c1235) l1235.length d1235) :: Y) w) _)
          have hS3 := (⟨_, _, (Le.refl _), (St.up (St.up hst1241 4 rfl) 1 rfl)⟩ : (fun w => ∃ ζ Y, Le z1239 ζ ∧ Ht w0 (frz ζ :: (blk g11 [.slice A1034 l1034.length c1034, .slice A1235 l1235.length c1235, vi y7.1] 29) :: Y) w) _)
          refine Any.takeE 0 rfl rfl rfl rfl (by kernel_rfl) (fun _ _ _ _ _ h => h) ((Ex.fieldAddr rfl Try.underlying29 rfl sz27).s) ?_
          refine Any.take 3 1 rfl rfl rfl rfl rfl (by kernel_rfl) (fun _ _ _ _ _ h => h) (ExS.load rfl Try.underlying27 rfl (fun w hS => by obtain ⟨_, _, _, hs⟩ := hS; exact hs.cell (i := 1) rfl rfl)) hS3 ?_
          refine Any.takeE 2 rfl rfl rfl rfl (by kernel_rfl) (fun _ _ _ _ _ h => h) ((Ex.move rfl).s) ?_
          obtain ⟨y1243, hy1243, hf⟩ := bnd hf
          refine Any.one 3 (by kernel_rfl) rfl rfl (One.of_ops rfl ?_)
          refine Ops.call rfl rfl Try.func41 (by kernel_rfl) (by kernel_rfl) rfl (go_pack_Reader_Text.walk (p0 := (⟨l1233, b1234⟩ : packReader)) (hst := hst1241) (f1 := f1233) (hf := hy1243)) ?_
          rintro _ w1243 ⟨z1243, A1245, c1245, rfl, hz1243, f1245, hst1243⟩
          refine ⟨_, rfl, Ops.stop ?_⟩
          replace f1 := f1.mono hz1243; replace f1235 := f1235.mono hz1243; replace f1034 := f1034.mono hz1243
          replace hy1238_0 := hy1238_0.trans hz1243
          replace hy1238_1 := hy1238_1.trans hz1243
          replace hz1238 := hz1238.trans hz1243
          replace hm1242 := hm1242.trans hz1243
          have hS0 := (⟨_, _, hm1242, (St.up (St.up (St.up hst1243 5 rfl) 4 rfl) 2 rfl)⟩ : (fun w => ∃ ζ Y, Le z1239 ζ ∧ Ht w0 (frz ζ :: (orow 24 4 (.slice A1034 l1034.length c1034) l1034.length d1034) :: (blk g2 [.slice none 0 0, .slice none 0 0, vi 0] 29) :: Y) w) _)
          have hS2 := (⟨_, _, hm1242, (St.up (St.up hst1243 2 rfl) 1 rfl)⟩ : (fun w => ∃ ζ Y, Le z1239 ζ ∧ Ht w0 (frz ζ :: (orow 9 1 (.slice A1235 l1235.length c1235) l1235.length d1235) :: Y) w) _)
          have hS3 := (⟨_, _, hm1242, (St.up (St.up hst1243 4 rfl) 1 rfl)⟩ : (fun w => ∃ ζ Y, Le z1239 ζ ∧ Ht w0 (frz ζ :: (blk g11 [.slice A1034 l1034.length c1034, .slice A1235 l1235.length c1235, vi y7.1] 29) :: Y) w) _)
          refine ⟨⟨.inr (fun _ => hS0), .inl (by decide), .inr (fun _ => hS2), .inr (fun _ => hS3), trivial⟩, ?_⟩
          refine Any.one 4 (by kernel_rfl) rfl rfl (One.of_ops rfl ?_)
          refine Ops.sliceF [vs y1243.1] hst1243 rfl Try.underlying27 sz9 zr9 rfl rfl (by kernel_rfl) rfl (by simp [Value.oneCell']) rfl (fun A1247 w1247 hst1247 => Ops.stop ?_)
          have f1247 : Cs tS z1243 [vs y1243.1] [y1243.1] := (Cs.cons (c := [vs y1243.1]) rfl (Cs.nil _ _))
          have hS0 := (⟨_, _, hm1242, (St.up (St.up (St.up hst1247 6 rfl) 5 rfl) 2 rfl)⟩ : (fun w => ∃ ζ Y, Le z1239 ζ ∧ Ht w0 (frz ζ :: (orow 24 4 (.slice A1034 l1034.length c1034) l1034.length d1034) :: (blk g2 [.slice none 0 0, .slice none 0 0, vi 0] 29) :: Y) w) _)
          have hS2 := (⟨_, _, hm1242, (St.up (St.up hst1247 3 rfl) 1 rfl)⟩ : (fun w => ∃ ζ Y, Le z1239 ζ ∧ Ht w0 (frz ζ :: (orow 9 1 (.slice A1235 l1235.length c1235) l1235.length d1235) :: Y) w) _)
          have hS3 := (⟨_, _, hm1242, (St.up (St.up hst1247 5 rfl) 1 rfl)⟩ : (fun w => ∃ ζ Y, Le z1239 ζ ∧ Ht w0 (frz ζ :: (blk g11 [.slice A1034 l1034.length c1034, .slice A1235 l1235.length c1235, vi y7.1] 29) :: Y) w) _)
          refine ⟨⟨.inr (fun _ => hS0), .inl (by decide), .inr (fun _ => hS2), .inr (fun _ => hS3), trivial⟩, ?_⟩
          obtain ⟨l1248, hy1248, hf⟩ := bnd hf
          refine Any.one 5 (by kernel_rfl) rfl rfl (One.of_ops rfl ?_)
          refine Ops.app 3 hst1247 rfl f1235 rfl (own_slh f1247 rfl (hst1247.get (i := 1) rfl)) rfl hy1248 rfl rfl rfl rfl Try.underlying27 inf9 rfl (by decide) (by decide) rfl (fun A1248 c1248 d1248 w1248 f1248 hst1248 => Ops.stop ?_)
          have hS0 := (⟨_, _, hm1242, (St.up (St.up (St.up hst1248 6 rfl) 5 rfl) 2 rfl)⟩ : (fun w => ∃ ζ Y, Le z1239 ζ ∧ Ht w0 (frz ζ :: (orow 24 4 (.slice A1034 l1034.length c1034) l1034.length d1034) :: (blk g2 [.slice none 0 0, .slice none 0 0, vi 0] 29) :: Y) w) _)
          have hS3 := (⟨_, _, hm1242, (St.up (St.up hst1248 5 rfl) 1 rfl)⟩ : (fun w => ∃ ζ Y, Le z1239 ζ ∧ Ht w0 (frz ζ :: (blk g11 [.slice A1034 l1034.length c1034, .slice A1235 l1235.length c1235, vi y7.1] 29) :: Y) w) _)
          refine ⟨⟨.inr (fun _ => hS0), .inl (by decide), .inl (by decide), .inr (fun _ => hS3), trivial⟩, ?_⟩
          refine Any.takeE 6 rfl rfl rfl rfl (by kernel_rfl) (fun _ _ _ _ _ h => h) ((Ex.fieldAddr rfl Try.underlying29 rfl sz27).s) ?_
          refine Any.one 7 (by kernel_rfl) rfl rfl (One.of_ops rfl ?_)
          refine Ops.store 5 [.slice A1248 l1248.length c1248] hst1248 rfl rfl rfl rfl sz27 rfl (by simp [Value.oneCell']) (by simp) (fun w1249 hst1249 => Ops.stop ?_)
          have hS0 := (⟨_, _, hm1242, (St.up (St.up (St.up hst1249 6 rfl) 5 rfl) 2 rfl)⟩ : (fun w => ∃ ζ Y, Le z1239 ζ ∧ Ht w0 (frz ζ :: (orow 24 4 (.slice A1034 l1034.length c1034) l1034.length d1034) :: (blk g2 [.slice none 0 0, .slice none 0 0, vi 0] 29) :: Y) w) _)
          refine ⟨⟨.inr (fun _ => hS0), .inl (by decide), .inl (by decide), .inl (by decide), trivial⟩, ?_⟩
          refine Any.done (by kernel_rfl) ?_
          refine Run.endBlk ?_
          refine Run.region ?_
          refine Ops.ex (Ex.move rfl) rfl rfl rfl ?_
          refine Ops.ex (Ex.sub rfl rfl) rfl rfl rfl ?_
          refine Ops.ex (Ex.assign rfl) rfl rfl rfl ?_
          refine Ops.nil ?_
          exact Run.sub (by exact subB_spec ⟨rfl, rfl, rfl, rfl, rfl, trivial⟩) (Run.stop ⟨mb1068', Nat.lt_succ_self _, wr (x1232 - 1), y1243.2.b_, y1243.2.bad_, l1248, A1245, c1245, A1248, c1248, d1248, z1243, (hnxb1068 _).symm.trans hf, rfl, hz1238, hy1238_0, hy1238_1, f1245, f1248, (St.up (St.up (St.up (St.up (St.up (St.up (St.forget hst1249 1) 5 rfl) 5 rfl) 5 rfl) 4 rfl) 5 rfl) 5 rfl)⟩)
        · replace hf := ifTb (bn_F hc) hf
          refine Run.exit _ rfl ?_
          refine Run.seq ?_
          refine Run.seq ?_
          have hm1263 := Le.refl z1239
          apply Run.jn (fun e' w' => ∃ (l1265 : List apiRef) (l1266 : List Str) (b1267 : Bool) (A1265 : Option Addr) (c1265 : Nat) (A1266 : Option Addr) (c1266 : Nat) (z1264 : Zp), go_edits_Read.j1 y7 l1265 l1266 b1267 = some r ∧ e' = [(2, .pointer (some ⟨g2, 0, none⟩)), (5, .pointer (some ⟨g11, 0, none⟩)), (72, vb b1267)] ∧ Le z1239 z1264 ∧ Le z0 z1264 ∧ Le z13 z1264 ∧ Le z1064 z1264 ∧ Sl tapiRef z1264 A1265 c1265 l1265 ∧ Sl tS z1264 A1266 c1266 l1266 ∧ Ht w0 (frz z1264 :: (blk g11 [.slice A1265 l1265.length c1265, .slice A1266 l1266.length c1266, vi y7.1] 29) :: (blk g2 [.slice none 0 0, .slice none 0 0, vi 0] 29) :: X) w')
          · intro hj1250
            refine Run.drawH [([], fun w => ∃ ζ Y, Le z1239 ζ ∧ Ht w0 (frz ζ :: (blk g11 [.slice A1034 l1034.length c1034, .slice A1235 l1235.length c1235, vi y7.1] 29) :: (blk g2 [.slice none 0 0, .slice none 0 0, vi 0] 29) :: Y) w), ([1, 5, 6, 8], fun w => ∃ ζ Y, Le z1239 ζ ∧ Ht w0 (frz ζ :: (blk g4 [.slice A1233 l1233.length c1233, vb b1234] 97) :: Y) w), ([5, 6, 8], fun w => ∃ ζ Y, Le z1239 ζ ∧ Ht w0 (frz ζ :: (orow 24 4 (.slice A1034 l1034.length c1034) l1034.length d1034) :: Y) w), ([5, 6, 8], fun w => ∃ ζ Y, Le z1239 ζ ∧ Ht w0 (frz ζ :: (orow 9 1 (.slice A1235 l1235.length c1235) l1235.length d1235) :: Y) w)] (by kernel_rfl) hst1239 (fun w1268 hst1268 => ?_)
            have hS0 := (⟨_, _, (Le.refl _), (St.up (St.up (St.up hst1268 5 rfl) 5 rfl) 2 rfl)⟩ : (fun w => ∃ ζ Y, Le z1239 ζ ∧ Ht w0 (frz ζ :: (blk g11 [.slice A1034 l1034.length c1034, .slice A1235 l1235.length c1235, vi y7.1] 29) :: (blk g2 [.slice none 0 0, .slice none 0 0, vi 0] 29) :: Y) w) _)
            have hS1 := (⟨_, _, (Le.refl _), (St.up (St.up hst1268 1 rfl) 1 rfl)⟩ : (fun w => ∃ ζ Y, Le z1239 ζ ∧ Ht w0 (frz ζ :: (blk g4 [.slice A1233 l1233.length c1233, vb b1234] 97) :: Y) w) _)
            have hS2 := (⟨_, _, (Le.refl _), (St.up (St.up hst1268 3 rfl) 1 rfl)⟩ : (fun w => ∃ ζ Y, Le z1239 ζ ∧ Ht w0 (frz ζ :: (orow 24 4 (.slice A1034 l1034.length c1034) l1034.length d1034) :: Y) w) _)
            have hS3 := (⟨_, _, (Le.refl _), (St.up (St.up hst1268 2 rfl) 1 rfl)⟩ : (fun w => ∃ ζ Y, Le z1239 ζ ∧ Ht w0 (frz ζ :: (orow 9 1 (.slice A1235 l1235.length c1235) l1235.length d1235) :: Y) w) _)
            refine Any.takeE 0 rfl rfl rfl rfl (by kernel_rfl) (fun _ _ _ _ _ h => h) ((Ex.move rfl).s) ?_
            obtain ⟨y1269, hy1269, hf⟩ := bnd hf
            refine Any.one 1 (by kernel_rfl) rfl rfl (One.of_ops rfl ?_)
            refine Ops.call rfl rfl Try.func43 (by kernel_rfl) (by kernel_rfl) rfl (go_pack_Reader_Done.walk (p0 := (⟨l1233, b1234⟩ : packReader)) (hst := hst1268) (f1 := f1233) (hf := hy1269)) ?_
            rintro _ w1269 ⟨z1269, rfl, hz1269, hst1269⟩
            refine ⟨_, rfl, Ops.stop ?_⟩
            replace f1 := f1.mono hz1269; replace f1233 := f1233.mono hz1269; replace f1235 := f1235.mono hz1269; replace f1034 := f1034.mono hz1269
            replace hy1238_0 := hy1238_0.trans hz1269
            replace hy1238_1 := hy1238_1.trans hz1269
            replace hz1238 := hz1238.trans hz1269
            replace hm1263 := hm1263.trans hz1269
            have hS0 := (⟨_, _, hm1263, (St.up (St.up (St.up hst1269 5 rfl) 5 rfl) 2 rfl)⟩ : (fun w => ∃ ζ Y, Le z1239 ζ ∧ Ht w0 (frz ζ :: (blk g11 [.slice A1034 l1034.length c1034, .slice A1235 l1235.length c1235, vi y7.1] 29) :: (blk g2 [.slice none 0 0, .slice none 0 0, vi 0] 29) :: Y) w) _)
            have hS2 := (⟨_, _, hm1263, (St.up (St.up hst1269 3 rfl) 1 rfl)⟩ : (fun w => ∃ ζ Y, Le z1239 ζ ∧ Ht w0 (frz ζ :: (orow 24 4 (.slice A1034 l1034.length c1034) l1034.length d1034) :: Y) w) _)
            have hS3 := (⟨_, _, hm1263, (St.up (St.up hst1269 2 rfl) 1 rfl)⟩ : (fun w => ∃ ζ Y, Le z1239 ζ ∧ Ht w0 (frz ζ :: (orow 9 1 (.slice A1235 l1235.length c1235) l1235.length d1235) :: Y) w) _)
            refine ⟨⟨.inr (fun _ => hS0), .inl (by decide), .inr (fun _ => hS2), .inr (fun _ => hS3), trivial⟩, ?_⟩
            refine Any.takeE 2 rfl rfl rfl rfl (by kernel_rfl) (fun _ _ _ _ _ h => h) ((Ex.not rfl).s) ?_
            refine Any.takeE 3 rfl rfl rfl rfl (by kernel_rfl) (fun _ _ _ _ _ h => h) ((Ex.move rfl).s) ?_
            refine Any.case 65 rfl (fun hc => ?_) (fun hc => ?_)
            · replace hf := ifFb (bn_T hc) hf
              refine Any.pass 4 rfl rfl rfl rfl (by kernel_rfl) (fun _ _ _ _ _ h => h) ?_
              refine Any.pass 5 rfl rfl rfl rfl (by kernel_rfl) (fun _ _ _ _ _ h => h) ?_
              refine Any.pass 6 rfl rfl rfl rfl (by kernel_rfl) (fun _ _ _ _ _ h => h) ?_
              refine Any.pass 7 rfl rfl rfl rfl (by kernel_rfl) (fun _ _ _ _ _ h => h) ?_
              refine Any.pass 8 rfl rfl rfl rfl (by kernel_rfl) (fun _ _ _ _ _ h => h) ?_
              refine Any.pass 9 rfl rfl rfl rfl (by kernel_rfl) (fun _ _ _ _ _ h => h) ?_
              refine Any.takeE 10 rfl rfl rfl rfl (by kernel_rfl) (fun _ _ _ _ _ h => h) ((Ex.pickT rfl rfl).s) ?_
              refine Any.done (by kernel_rfl) ?_
              obtain ⟨z1271, hz1271, f1271, hst1271⟩ := St.freeze (τ := tapiRef) (xs := l1034) (St.up (St.up (St.up (St.up (St.up (St.up hst1269 5 rfl) 5 rfl) 4 rfl) 4 rfl) 5 rfl) 5 rfl) f1034 rfl
              replace f1 := f1.mono hz1271; replace f1233 := f1233.mono hz1271; replace f1235 := f1235.mono hz1271
              replace hy1238_0 := hy1238_0.trans hz1271
              replace hy1238_1 := hy1238_1.trans hz1271
              replace hz1238 := hz1238.trans hz1271
              replace hm1263 := hm1263.trans hz1271
              obtain ⟨z1272, hz1272, f1272, hst1272⟩ := St.freeze (τ := tS) (xs := l1235) (St.up (St.up (St.up (St.up (St.up hst1271 4 rfl) 4 rfl) 3 rfl) 4 rfl) 4 rfl) f1235 rfl
              replace f1 := f1.mono hz1272; replace f1233 := f1233.mono hz1272; replace f1271 := f1271.mono hz1272
              replace hy1238_0 := hy1238_0.trans hz1272
              replace hy1238_1 := hy1238_1.trans hz1272
              replace hz1238 := hz1238.trans hz1272
              replace hm1263 := hm1263.trans hz1272
              exact Run.sub (by exact subB_spec ⟨rfl, rfl, rfl, trivial⟩) (hj1250 _ _ ⟨l1034, l1235, true, A1034, c1034, A1235, c1235, z1272, hf, rfl, hm1263, hy1238_0, hy1238_1, hz1238, f1271, f1272, (St.forget hst1272 1)⟩)
            · replace hf := ifTb (bn_F hc) hf
              refine Any.take 0 4 rfl rfl rfl rfl rfl (by kernel_rfl) (fun _ _ _ _ _ h => h) (ExS.g (ExS.loadAgg [.slice A1034 l1034.length c1034, .slice A1235 l1235.length c1235, vi y7.1] rfl Try.underlying29 rfl sz29 rfl (fun w hS => by obtain ⟨_, _, _, hs⟩ := hS; exact hs.cells (i := 1) rfl 0 3))) hS0 ?_
              refine Any.takeE 7 rfl rfl rfl rfl (by kernel_rfl) (fun _ _ _ _ _ h => h) (ExS.g ((Ex.move rfl).s)) ?_
              refine Any.all [5, 8] (by kernel_rfl) rfl (fun i hi => ?_)
              simp only [List.mem_cons, List.not_mem_nil, or_false] at hi
              rcases hi with rfl | rfl
              · skip
                obtain ⟨z1274, hz1274, f1274, hst1274⟩ := St.freeze (τ := tapiRef) (xs := l1034) (St.up (St.up (St.up (St.up (St.up (St.up hst1269 5 rfl) 5 rfl) 4 rfl) 4 rfl) 5 rfl) 5 rfl) f1034 rfl
                replace f1 := f1.mono hz1274; replace f1233 := f1233.mono hz1274; replace f1235 := f1235.mono hz1274
                replace hy1238_0 := hy1238_0.trans hz1274
                replace hy1238_1 := hy1238_1.trans hz1274
                replace hz1238 := hz1238.trans hz1274
                replace hm1263 := hm1263.trans hz1274
                obtain ⟨z1275, hz1275, f1275, hst1275⟩ := St.freeze (τ := tS) (xs := l1235) (St.up (St.up (St.up (St.up (St.up hst1274 4 rfl) 4 rfl) 3 rfl) 4 rfl) 4 rfl) f1235 rfl
                replace f1 := f1.mono hz1275; replace f1274 := f1274.mono hz1275; replace f1233 := f1233.mono hz1275
                replace hy1238_0 := hy1238_0.trans hz1275
                replace hy1238_1 := hy1238_1.trans hz1275
                replace hz1238 := hz1238.trans hz1275
                replace hm1263 := hm1263.trans hz1275
                obtain ⟨y1273, hy1273, hf⟩ := bnd hf
                refine ⟨_, rfl, rfl, One.g <| One.of_ops rfl ?_⟩
                refine Ops.call rfl rfl Try.func18 (by kernel_rfl) (by kernel_rfl) rfl (go_edits_Bytes.walk (p0 := (⟨l1034, l1235, y7.1⟩ : editsEdit)) (hst := hst1275) (f1 := f1274) (f2 := f1275) (hf := hy1273)) ?_
                rintro _ w1273 ⟨z1273, A1276, c1276, rfl, hz1273, f1276, hst1273⟩
                refine ⟨_, rfl, Ops.stop ?_⟩
                replace f1 := f1.mono hz1273; replace f1274 := f1274.mono hz1273; replace f1275 := f1275.mono hz1273; replace f1233 := f1233.mono hz1273
                replace hy1238_0 := hy1238_0.trans hz1273
                replace hy1238_1 := hy1238_1.trans hz1273
                replace hz1238 := hz1238.trans hz1273
                replace hm1263 := hm1263.trans hz1273
                have hS0 := (⟨_, _, hm1263, (St.up (St.up (St.up hst1273 3 rfl) 3 rfl) 2 rfl)⟩ : (fun w => ∃ ζ Y, Le z1239 ζ ∧ Ht w0 (frz ζ :: (blk g11 [.slice A1034 l1034.length c1034, .slice A1235 l1235.length c1235, vi y7.1] 29) :: (blk g2 [.slice none 0 0, .slice none 0 0, vi 0] 29) :: Y) w) _)
                refine ⟨⟨.inr (fun _ => hS0), .inl (by decide), .inl (by decide), .inl (by decide), trivial⟩, ?_⟩
                refine Any.all [6, 8] (by kernel_rfl) rfl (fun i hi => ?_)
                simp only [List.mem_cons, List.not_mem_nil, or_false] at hi
                rcases hi with rfl | rfl
                · skip
                  refine ⟨_, rfl, rfl, One.g <| One.of_ops rfl ?_⟩
                  refine Ops.str8 (f1276.at_ hst1273) rfl Try.underlying30 Try.underlying5 Try.underlying9 rfl (Ops.stop ?_)
                  have hS0 := (⟨_, _, hm1263, (St.up (St.up (St.up hst1273 3 rfl) 3 rfl) 2 rfl)⟩ : (fun w => ∃ ζ Y, Le z1239 ζ ∧ Ht w0 (frz ζ :: (blk g11 [.slice A1034 l1034.length c1034, .slice A1235 l1235.length c1235, vi y7.1] 29) :: (blk g2 [.slice none 0 0, .slice none 0 0, vi 0] 29) :: Y) w) _)
                  refine ⟨⟨.inr (fun _ => hS0), .inl (by decide), .inl (by decide), .inl (by decide), trivial⟩, ?_⟩
                  refine Any.one 8 (by kernel_rfl) rfl rfl (One.g <| One.of_ops rfl ?_)
                  refine Ops.str8 (f1.at_ hst1273) rfl Try.underlying30 Try.underlying5 Try.underlying9 rfl (Ops.stop ?_)
                  have hS0 := (⟨_, _, hm1263, (St.up (St.up (St.up hst1273 3 rfl) 3 rfl) 2 rfl)⟩ : (fun w => ∃ ζ Y, Le z1239 ζ ∧ Ht w0 (frz ζ :: (blk g11 [.slice A1034 l1034.length c1034, .slice A1235 l1235.length c1235, vi y7.1] 29) :: (blk g2 [.slice none 0 0, .slice none 0 0, vi 0] 29) :: Y) w) _)
                  refine ⟨⟨.inr (fun _ => hS0), .inl (by decide), .inl (by decide), .inl (by decide), trivial⟩, ?_⟩
                  refine Any.takeE 9 rfl rfl rfl rfl (by kernel_rfl) (fun _ _ _ _ _ h => h) (ExS.g ((Ex.neqT rfl rfl).s)) ?_
                  refine Any.takeE 10 rfl rfl rfl rfl (by kernel_rfl) (fun _ _ _ _ _ h => h) ((Ex.pickF rfl rfl).s) ?_
                  refine Any.done (by kernel_rfl) ?_
                  exact Run.sub (by exact subB_spec ⟨rfl, rfl, rfl, trivial⟩) (hj1250 _ _ ⟨l1034, l1235, !(decide (y1273 = p0)), A1034, c1034, A1235, c1235, z1273, hf, rfl, hm1263, hy1238_0, hy1238_1, hz1238, f1274, f1275, (St.forget hst1273 1)⟩)
                · skip
                  refine ⟨_, rfl, rfl, One.g <| One.of_ops rfl ?_⟩
                  refine Ops.str8 (f1.at_ hst1273) rfl Try.underlying30 Try.underlying5 Try.underlying9 rfl (Ops.stop ?_)
                  have hS0 := (⟨_, _, hm1263, (St.up (St.up (St.up hst1273 3 rfl) 3 rfl) 2 rfl)⟩ : (fun w => ∃ ζ Y, Le z1239 ζ ∧ Ht w0 (frz ζ :: (blk g11 [.slice A1034 l1034.length c1034, .slice A1235 l1235.length c1235, vi y7.1] 29) :: (blk g2 [.slice none 0 0, .slice none 0 0, vi 0] 29) :: Y) w) _)
                  refine ⟨⟨.inr (fun _ => hS0), .inl (by decide), .inl (by decide), .inl (by decide), trivial⟩, ?_⟩
                  refine Any.one 6 (by kernel_rfl) rfl rfl (One.g <| One.of_ops rfl ?_)
                  refine Ops.str8 (f1276.at_ hst1273) rfl Try.underlying30 Try.underlying5 Try.underlying9 rfl (Ops.stop ?_)
                  have hS0 := (⟨_, _, hm1263, (St.up (St.up (St.up hst1273 3 rfl) 3 rfl) 2 rfl)⟩ : (fun w => ∃ ζ Y, Le z1239 ζ ∧ Ht w0 (frz ζ :: (blk g11 [.slice A1034 l1034.length c1034, .slice A1235 l1235.length c1235, vi y7.1] 29) :: (blk g2 [.slice none 0 0, .slice none 0 0, vi 0] 29) :: Y) w) _)
                  refine ⟨⟨.inr (fun _ => hS0), .inl (by decide), .inl (by decide), .inl (by decide), trivial⟩, ?_⟩
                  refine Any.takeE 9 rfl rfl rfl rfl (by kernel_rfl) (fun _ _ _ _ _ h => h) (ExS.g ((Ex.neqT rfl rfl).s)) ?_
                  refine Any.takeE 10 rfl rfl rfl rfl (by kernel_rfl) (fun _ _ _ _ _ h => h) ((Ex.pickF rfl rfl).s) ?_
                  refine Any.done (by kernel_rfl) ?_
                  exact Run.sub (by exact subB_spec ⟨rfl, rfl, rfl, trivial⟩) (hj1250 _ _ ⟨l1034, l1235, !(decide (y1273 = p0)), A1034, c1034, A1235, c1235, z1273, hf, rfl, hm1263, hy1238_0, hy1238_1, hz1238, f1274, f1275, (St.forget hst1273 1)⟩)
              · skip
                refine ⟨_, rfl, rfl, One.g <| One.of_ops rfl ?_⟩
                refine Ops.str8 (f1.at_ hst1269) rfl Try.underlying30 Try.underlying5 Try.underlying9 rfl (Ops.stop ?_)
                have hS0 := (⟨_, _, hm1263, (St.up (St.up (St.up hst1269 5 rfl) 5 rfl) 2 rfl)⟩ : (fun w => ∃ ζ Y, Le z1239 ζ ∧ Ht w0 (frz ζ :: (blk g11 [.slice A1034 l1034.length c1034, .slice A1235 l1235.length c1235, vi y7.1] 29) :: (blk g2 [.slice none 0 0, .slice none 0 0, vi 0] 29) :: Y) w) _)
                refine ⟨⟨.inr (fun _ => hS0), .inl (by decide), .inl (by decide), .inl (by decide), trivial⟩, ?_⟩
                obtain ⟨z1278, hz1278, f1278, hst1278⟩ := St.freeze (τ := tapiRef) (xs := l1034) (St.up (St.up (St.up (St.up (St.up (St.up hst1269 5 rfl) 5 rfl) 4 rfl) 4 rfl) 5 rfl) 5 rfl) f1034 rfl
                replace f1 := f1.mono hz1278; replace f1233 := f1233.mono hz1278; replace f1235 := f1235.mono hz1278
                replace hy1238_0 := hy1238_0.trans hz1278
                replace hy1238_1 := hy1238_1.trans hz1278
                replace hz1238 := hz1238.trans hz1278
                replace hm1263 := hm1263.trans hz1278
                obtain ⟨z1279, hz1279, f1279, hst1279⟩ := St.freeze (τ := tS) (xs := l1235) (St.up (St.up (St.up (St.up (St.up hst1278 4 rfl) 4 rfl) 3 rfl) 4 rfl) 4 rfl) f1235 rfl
                replace f1 := f1.mono hz1279; replace f1278 := f1278.mono hz1279; replace f1233 := f1233.mono hz1279
                replace hy1238_0 := hy1238_0.trans hz1279
                replace hy1238_1 := hy1238_1.trans hz1279
                replace hz1238 := hz1238.trans hz1279
                replace hm1263 := hm1263.trans hz1279
                obtain ⟨y1277, hy1277, hf⟩ := bnd hf
                refine Any.one 5 (by kernel_rfl) rfl rfl (One.g <| One.of_ops rfl ?_)
                refine Ops.call rfl rfl Try.func18 (by kernel_rfl) (by kernel_rfl) rfl (go_edits_Bytes.walk (p0 := (⟨l1034, l1235, y7.1⟩ : editsEdit)) (hst := hst1279) (f1 := f1278) (f2 := f1279) (hf := hy1277)) ?_
                rintro _ w1277 ⟨z1277, A1280, c1280, rfl, hz1277, f1280, hst1277⟩
                refine ⟨_, rfl, Ops.stop ?_⟩
                replace f1 := f1.mono hz1277; replace f1278 := f1278.mono hz1277; replace f1279 := f1279.mono hz1277; replace f1233 := f1233.mono hz1277
                replace hy1238_0 := hy1238_0.trans hz1277
                replace hy1238_1 := hy1238_1.trans hz1277
                replace hz1238 := hz1238.trans hz1277
                replace hm1263 := hm1263.trans hz1277
                have hS0 := (⟨_, _, hm1263, (St.up (St.up (St.up hst1277 3 rfl) 3 rfl) 2 rfl)⟩ : (fun w => ∃ ζ Y, Le z1239 ζ ∧ Ht w0 (frz ζ :: (blk g11 [.slice A1034 l1034.length c1034, .slice A1235 l1235.length c1235, vi y7.1] 29) :: (blk g2 [.slice none 0 0, .slice none 0 0, vi 0] 29) :: Y) w) _)
                refine ⟨⟨.inr (fun _ => hS0), .inl (by decide), .inl (by decide), .inl (by decide), trivial⟩, ?_⟩
                refine Any.one 6 (by kernel_rfl) rfl rfl (One.g <| One.of_ops rfl ?_)
                refine Ops.str8 (f1280.at_ hst1277) rfl Try.underlying30 Try.underlying5 Try.underlying9 rfl (Ops.stop ?_)
                have hS0 := (⟨_, _, hm1263, (St.up (St.up (St.up hst1277 3 rfl) 3 rfl) 2 rfl)⟩ : (fun w => ∃ ζ Y, Le z1239 ζ ∧ Ht w0 (frz ζ :: (blk g11 [.slice A1034 l1034.length c1034, .slice A1235 l1235.length c1235, vi y7.1] 29) :: (blk g2 [.slice none 0 0, .slice none 0 0, vi 0] 29) :: Y) w) _)
                refine ⟨⟨.inr (fun _ => hS0), .inl (by decide), .inl (by decide), .inl (by decide), trivial⟩, ?_⟩
                refine Any.takeE 9 rfl rfl rfl rfl (by kernel_rfl) (fun _ _ _ _ _ h => h) (ExS.g ((Ex.neqT rfl rfl).s)) ?_
                refine Any.takeE 10 rfl rfl rfl rfl (by kernel_rfl) (fun _ _ _ _ _ h => h) ((Ex.pickF rfl rfl).s) ?_
                refine Any.done (by kernel_rfl) ?_
                exact Run.sub (by exact subB_spec ⟨rfl, rfl, rfl, trivial⟩) (hj1250 _ _ ⟨l1034, l1235, !(decide (y1277 = p0)), A1034, c1034, A1235, c1235, z1277, hf, rfl, hm1263, hy1238_0, hy1238_1, hz1238, f1278, f1279, (St.forget hst1277 1)⟩)
          · rintro e' w1281 ⟨l1265, l1266, b1267, A1265, c1265, A1266, c1266, z1264, hf, rfl, hz1281, hy1281_0, hy1281_1, hy1281_2, f1265, f1266, hst1281⟩
            unfold go_edits_Read.j1 at hf
            refine Run.cond rfl (fun hc => ?_) (fun hc => ?_)
            · replace hf := ifTb hc hf
              refine Run.seq ?_
              refine Run.region ?_
              refine Ops.ex (Ex.build [.slice none 0 0, .slice none 0 0, vi 0] rfl Try.underlying29 zr29 (pl29 Try.underlying29) (by kernel_rfl)) rfl rfl rfl ?_
              refine Ops.store 2 [.slice none 0 0, .slice none 0 0, vi 0] hst1281 rfl rfl rfl rfl sz29 rfl (by simp [Value.oneCell']) (by simp) (fun w1282 hst1282 => ?_)
              refine Ops.ex (Ex.assign rfl) rfl rfl rfl ?_
              refine Ops.nil ?_
              obtain rfl := Option.some.inj hf
              exact Run.retV [.agg #[.slice none 0 0, .slice none 0 0, vi 0], vb false] rfl ⟨⟨_, rfl, run_loadN _ Try.underlying29 rfl sz29 rfl (hst1282.cells (i := 2) rfl 0 3)⟩, rfl, trivial⟩ ⟨z1264, none, 0, none, 0, rfl, hy1281_0, (Sl.nil _ _), (Sl.nil _ _), (St.forget (St.forget hst1282 2) 1)⟩
            · replace hf := ifFb hc hf
              refine Run.skip ?_
              refine Run.seq ?_
              refine Run.region ?_
              refine Ops.loadAgg _ rfl Try.underlying29 rfl sz29 rfl (hst1281.cells (i := 1) rfl 0 3) rfl ?_
              refine Ops.store 2 [.slice A1265 l1265.length c1265, .slice A1266 l1266.length c1266, vi y7.1] hst1281 rfl rfl rfl rfl sz29 rfl (by simp [Value.oneCell']) (by simp) (fun w1283 hst1283 => ?_)
              refine Ops.ex (Ex.assign rfl) rfl rfl rfl ?_
              refine Ops.nil ?_
              obtain rfl := Option.some.inj hf
              exact Run.retV [.agg #[.slice A1265 l1265.length c1265, .slice A1266 l1266.length c1266, vi y7.1], vb true] rfl ⟨⟨_, rfl, run_loadN _ Try.underlying29 rfl sz29 rfl (hst1283.cells (i := 2) rfl 0 3)⟩, rfl, trivial⟩ ⟨z1264, A1265, c1265, A1266, c1266, rfl, hy1281_0, f1265, f1266, (St.forget (St.forget hst1283 2) 1)⟩
      · replace hf := ifF (dec_F hc) hf
        refine Ops.off rfl rfl ?_
        refine Ops.off rfl rfl ?_
        refine Ops.off rfl rfl ?_
        refine Ops.ex (Ex.pickF rfl rfl) rfl rfl rfl ?_
        refine Ops.nil ?_
        refine Run.condF rfl rfl ?_
        refine Run.exit _ rfl ?_
        refine Run.seq ?_
        refine Run.seq ?_
        have hm1297 := Le.refl z1231
        apply Run.jn (fun e' w' => ∃ (l1299 : List apiRef) (l1300 : List Str) (b1301 : Bool) (A1299 : Option Addr) (c1299 : Nat) (A1300 : Option Addr) (c1300 : Nat) (z1298 : Zp), go_edits_Read.j2 y7 l1299 l1300 b1301 = some r ∧ e' = [(2, .pointer (some ⟨g2, 0, none⟩)), (5, .pointer (some ⟨g11, 0, none⟩)), (72, vb b1301)] ∧ Le z1231 z1298 ∧ Le z0 z1298 ∧ Le z13 z1298 ∧ Le z1064 z1298 ∧ Sl tapiRef z1298 A1299 c1299 l1299 ∧ Sl tS z1298 A1300 c1300 l1300 ∧ Ht w0 (frz z1298 :: (blk g11 [.slice A1299 l1299.length c1299, .slice A1300 l1300.length c1300, vi y7.1] 29) :: (blk g2 [.slice none 0 0, .slice none 0 0, vi 0] 29) :: X) w')
        · intro hj1284
          refine Run.drawH [([], fun w => ∃ ζ Y, Le z1231 ζ ∧ Ht w0 (frz ζ :: (blk g11 [.slice A1034 l1034.length c1034, .slice A1235 l1235.length c1235, vi y7.1] 29) :: (blk g2 [.slice none 0 0, .slice none 0 0, vi 0] 29) :: Y) w), ([1, 5, 6, 8], fun w => ∃ ζ Y, Le z1231 ζ ∧ Ht w0 (frz ζ :: (blk g4 [.slice A1233 l1233.length c1233, vb b1234] 97) :: Y) w), ([5, 6, 8], fun w => ∃ ζ Y, Le z1231 ζ ∧ Ht w0 (frz ζ :: (orow 24 4 (.slice A1034 l1034.length c1034) l1034.length d1034) :: Y) w), ([5, 6, 8], fun w => ∃ ζ Y, Le z1231 ζ ∧ Ht w0 (frz ζ :: (orow 9 1 (.slice A1235 l1235.length c1235) l1235.length d1235) :: Y) w)] (by kernel_rfl) hst1238 (fun w1302 hst1302 => ?_)
          have hS0 := (⟨_, _, (Le.refl _), (St.up (St.up (St.up hst1302 5 rfl) 5 rfl) 2 rfl)⟩ : (fun w => ∃ ζ Y, Le z1231 ζ ∧ Ht w0 (frz ζ :: (blk g11 [.slice A1034 l1034.length c1034, .slice A1235 l1235.length c1235, vi y7.1] 29) :: (blk g2 [.slice none 0 0, .slice none 0 0, vi 0] 29) :: Y) w) _)
          have hS1 := (⟨_, _, (Le.refl _), (St.up (St.up hst1302 2 rfl) 1 rfl)⟩ : (fun w => ∃ ζ Y, Le z1231 ζ ∧ Ht w0 (frz ζ :: (blk g4 [.slice A1233 l1233.length c1233, vb b1234] 97) :: Y) w) _)
          have hS2 := (⟨_, _, (Le.refl _), (St.up (St.up hst1302 3 rfl) 1 rfl)⟩ : (fun w => ∃ ζ Y, Le z1231 ζ ∧ Ht w0 (frz ζ :: (orow 24 4 (.slice A1034 l1034.length c1034) l1034.length d1034) :: Y) w) _)
          have hS3 := (⟨_, _, (Le.refl _), (St.up (St.up hst1302 1 rfl) 1 rfl)⟩ : (fun w => ∃ ζ Y, Le z1231 ζ ∧ Ht w0 (frz ζ :: (orow 9 1 (.slice A1235 l1235.length c1235) l1235.length d1235) :: Y) w) _)
          refine Any.takeE 0 rfl rfl rfl rfl (by kernel_rfl) (fun _ _ _ _ _ h => h) ((Ex.move rfl).s) ?_
          obtain ⟨y1303, hy1303, hf⟩ := bnd hf
          refine Any.one 1 (by kernel_rfl) rfl rfl (One.of_ops rfl ?_)
          refine Ops.call rfl rfl Try.func43 (by kernel_rfl) (by kernel_rfl) rfl (go_pack_Reader_Done.walk (p0 := (⟨l1233, b1234⟩ : packReader)) (hst := (St.up (St.up (St.up (St.up (St.up (St.up hst1302 5 rfl) 5 rfl) 5 rfl) 4 rfl) 5 rfl) 5 rfl)) (f1 := f1233) (hf := hy1303)) ?_
          rintro _ w1303 ⟨z1303, rfl, hz1303, hst1303⟩
          refine ⟨_, rfl, Ops.stop ?_⟩
          replace f1 := f1.mono hz1303; replace f1233 := f1233.mono hz1303; replace f1235 := f1235.mono hz1303; replace f1034 := f1034.mono hz1303
          replace hy1238_0 := hy1238_0.trans hz1303
          replace hy1238_1 := hy1238_1.trans hz1303
          replace hz1238 := hz1238.trans hz1303
          replace hm1297 := hm1297.trans hz1303
          have hS0 := (⟨_, _, hm1297, (St.up (St.up (St.up hst1303 5 rfl) 5 rfl) 2 rfl)⟩ : (fun w => ∃ ζ Y, Le z1231 ζ ∧ Ht w0 (frz ζ :: (blk g11 [.slice A1034 l1034.length c1034, .slice A1235 l1235.length c1235, vi y7.1] 29) :: (blk g2 [.slice none 0 0, .slice none 0 0, vi 0] 29) :: Y) w) _)
          have hS2 := (⟨_, _, hm1297, (St.up (St.up hst1303 3 rfl) 1 rfl)⟩ : (fun w => ∃ ζ Y, Le z1231 ζ ∧ Ht w0 (frz ζ :: (orow 24 4 (.slice A1034 l1034.length c1034) l1034.length d1034) :: Y) w) _)
          have hS3 := (⟨_, _, hm1297, (St.up (St.up hst1303 2 rfl) 1 rfl)⟩ : (fun w => ∃ ζ Y, Le z1231 ζ ∧ Ht w0 (frz ζ :: (orow 9 1 (.slice A1235 l1235.length c1235) l1235.length d1235) :: Y) w) _)
          refine ⟨⟨.inr (fun _ => hS0), .inl (by decide), .inr (fun _ => hS2), .inr (fun _ => hS3), trivial⟩, ?_⟩
          refine Any.takeE 2 rfl rfl rfl rfl (by kernel_rfl) (fun _ _ _ _ _ h => h) ((Ex.not rfl).s) ?_
          refine Any.takeE 3 rfl rfl rfl rfl (by kernel_rfl) (fun _ _ _ _ _ h => h) ((Ex.move rfl).s) ?_
          refine Any.case 65 rfl (fun hc => ?_) (fun hc => ?_)
          · replace hf := ifFb (bn_T hc) hf
            refine Any.pass 4 rfl rfl rfl rfl (by kernel_rfl) (fun _ _ _ _ _ h => h) ?_
            refine Any.pass 5 rfl rfl rfl rfl (by kernel_rfl) (fun _ _ _ _ _ h => h) ?_
            refine Any.pass 6 rfl rfl rfl rfl (by kernel_rfl) (fun _ _ _ _ _ h => h) ?_
            refine Any.pass 7 rfl rfl rfl rfl (by kernel_rfl) (fun _ _ _ _ _ h => h) ?_
            refine Any.pass 8 rfl rfl rfl rfl (by kernel_rfl) (fun _ _ _ _ _ h => h) ?_
            refine Any.pass 9 rfl rfl rfl rfl (by kernel_rfl) (fun _ _ _ _ _ h => h) ?_
            refine Any.takeE 10 rfl rfl rfl rfl (by kernel_rfl) (fun _ _ _ _ _ h => h) ((Ex.pickT rfl rfl).s) ?_
            refine Any.done (by kernel_rfl) ?_
            obtain ⟨z1305, hz1305, f1305, hst1305⟩ := St.freeze (τ := tapiRef) (xs := l1034) (St.up (St.up (St.up (St.up (St.up (St.up hst1303 5 rfl) 5 rfl) 4 rfl) 4 rfl) 5 rfl) 5 rfl) f1034 rfl
            replace f1 := f1.mono hz1305; replace f1233 := f1233.mono hz1305; replace f1235 := f1235.mono hz1305
            replace hy1238_0 := hy1238_0.trans hz1305
            replace hy1238_1 := hy1238_1.trans hz1305
            replace hz1238 := hz1238.trans hz1305
            replace hm1297 := hm1297.trans hz1305
            obtain ⟨z1306, hz1306, f1306, hst1306⟩ := St.freeze (τ := tS) (xs := l1235) (St.up (St.up (St.up (St.up (St.up hst1305 4 rfl) 4 rfl) 3 rfl) 4 rfl) 4 rfl) f1235 rfl
            replace f1 := f1.mono hz1306; replace f1233 := f1233.mono hz1306; replace f1305 := f1305.mono hz1306
            replace hy1238_0 := hy1238_0.trans hz1306
            replace hy1238_1 := hy1238_1.trans hz1306
            replace hz1238 := hz1238.trans hz1306
            replace hm1297 := hm1297.trans hz1306
            exact Run.sub (by exact subB_spec ⟨rfl, rfl, rfl, trivial⟩) (hj1284 _ _ ⟨l1034, l1235, true, A1034, c1034, A1235, c1235, z1306, hf, rfl, hm1297, hy1238_0, hy1238_1, hz1238, f1305, f1306, (St.forget hst1306 1)⟩)
          · replace hf := ifTb (bn_F hc) hf
            refine Any.take 0 4 rfl rfl rfl rfl rfl (by kernel_rfl) (fun _ _ _ _ _ h => h) (ExS.g (ExS.loadAgg [.slice A1034 l1034.length c1034, .slice A1235 l1235.length c1235, vi y7.1] rfl Try.underlying29 rfl sz29 rfl (fun w hS => by obtain ⟨_, _, _, hs⟩ := hS; exact hs.cells (i := 1) rfl 0 3))) hS0 ?_
            refine Any.takeE 7 rfl rfl rfl rfl (by kernel_rfl) (fun _ _ _ _ _ h => h) (ExS.g ((Ex.move rfl).s)) ?_
            refine Any.all [5, 8] (by kernel_rfl) rfl (fun i hi => ?_)
            simp only [List.mem_cons, List.not_mem_nil, or_false] at hi
            rcases hi with rfl | rfl
            · skip
              obtain ⟨z1308, hz1308, f1308, hst1308⟩ := St.freeze (τ := tapiRef) (xs := l1034) (St.up (St.up (St.up (St.up (St.up (St.up hst1303 5 rfl) 5 rfl) 4 rfl) 4 rfl) 5 rfl) 5 rfl) f1034 rfl
              replace f1 := f1.mono hz1308; replace f1233 := f1233.mono hz1308; replace f1235 := f1235.mono hz1308
              replace hy1238_0 := hy1238_0.trans hz1308
              replace hy1238_1 := hy1238_1.trans hz1308
              replace hz1238 := hz1238.trans hz1308
              replace hm1297 := hm1297.trans hz1308
              obtain ⟨z1309, hz1309, f1309, hst1309⟩ := St.freeze (τ := tS) (xs := l1235) (St.up (St.up (St.up (St.up (St.up hst1308 4 rfl) 4 rfl) 3 rfl) 4 rfl) 4 rfl) f1235 rfl
              replace f1 := f1.mono hz1309; replace f1308 := f1308.mono hz1309; replace f1233 := f1233.mono hz1309
              replace hy1238_0 := hy1238_0.trans hz1309
              replace hy1238_1 := hy1238_1.trans hz1309
              replace hz1238 := hz1238.trans hz1309
              replace hm1297 := hm1297.trans hz1309
              obtain ⟨y1307, hy1307, hf⟩ := bnd hf
              refine ⟨_, rfl, rfl, One.g <| One.of_ops rfl ?_⟩
              refine Ops.call rfl rfl Try.func18 (by kernel_rfl) (by kernel_rfl) rfl (go_edits_Bytes.walk (p0 := (⟨l1034, l1235, y7.1⟩ : editsEdit)) (hst := hst1309) (f1 := f1308) (f2 := f1309) (hf := hy1307)) ?_
              rintro _ w1307 ⟨z1307, A1310, c1310, rfl, hz1307, f1310, hst1307⟩
              refine ⟨_, rfl, Ops.stop ?_⟩
              replace f1 := f1.mono hz1307; replace f1308 := f1308.mono hz1307; replace f1309 := f1309.mono hz1307; replace f1233 := f1233.mono hz1307
              replace hy1238_0 := hy1238_0.trans hz1307
              replace hy1238_1 := hy1238_1.trans hz1307
              replace hz1238 := hz1238.trans hz1307
              replace hm1297 := hm1297.trans hz1307
              have hS0 := (⟨_, _, hm1297, (St.up (St.up (St.up hst1307 3 rfl) 3 rfl) 2 rfl)⟩ : (fun w => ∃ ζ Y, Le z1231 ζ ∧ Ht w0 (frz ζ :: (blk g11 [.slice A1034 l1034.length c1034, .slice A1235 l1235.length c1235, vi y7.1] 29) :: (blk g2 [.slice none 0 0, .slice none 0 0, vi 0] 29) :: Y) w) _)
              refine ⟨⟨.inr (fun _ => hS0), .inl (by decide), .inl (by decide), .inl (by decide), trivial⟩, ?_⟩
              refine Any.all [6, 8] (by kernel_rfl) rfl (fun i hi => ?_)
              simp only [List.mem_cons, List.not_mem_nil, or_false] at hi
              rcases hi with rfl | rfl
              · skip
                refine ⟨_, rfl, rfl, One.g <| One.of_ops rfl ?_⟩
                refine Ops.str8 (f1310.at_ hst1307) rfl Try.underlying30 Try.underlying5 Try.underlying9 rfl (Ops.stop ?_)
                have hS0 := (⟨_, _, hm1297, (St.up (St.up (St.up hst1307 3 rfl) 3 rfl) 2 rfl)⟩ : (fun w => ∃ ζ Y, Le z1231 ζ ∧ Ht w0 (frz ζ :: (blk g11 [.slice A1034 l1034.length c1034, .slice A1235 l1235.length c1235, vi y7.1] 29) :: (blk g2 [.slice none 0 0, .slice none 0 0, vi 0] 29) :: Y) w) _)
                refine ⟨⟨.inr (fun _ => hS0), .inl (by decide), .inl (by decide), .inl (by decide), trivial⟩, ?_⟩
                refine Any.one 8 (by kernel_rfl) rfl rfl (One.g <| One.of_ops rfl ?_)
                refine Ops.str8 (f1.at_ hst1307) rfl Try.underlying30 Try.underlying5 Try.underlying9 rfl (Ops.stop ?_)
                have hS0 := (⟨_, _, hm1297, (St.up (St.up (St.up hst1307 3 rfl) 3 rfl) 2 rfl)⟩ : (fun w => ∃ ζ Y, Le z1231 ζ ∧ Ht w0 (frz ζ :: (blk g11 [.slice A1034 l1034.length c1034, .slice A1235 l1235.length c1235, vi y7.1] 29) :: (blk g2 [.slice none 0 0, .slice none 0 0, vi 0] 29) :: Y) w) _)
                refine ⟨⟨.inr (fun _ => hS0), .inl (by decide), .inl (by decide), .inl (by decide), trivial⟩, ?_⟩
                refine Any.takeE 9 rfl rfl rfl rfl (by kernel_rfl) (fun _ _ _ _ _ h => h) (ExS.g ((Ex.neqT rfl rfl).s)) ?_
                refine Any.takeE 10 rfl rfl rfl rfl (by kernel_rfl) (fun _ _ _ _ _ h => h) ((Ex.pickF rfl rfl).s) ?_
                refine Any.done (by kernel_rfl) ?_
                exact Run.sub (by exact subB_spec ⟨rfl, rfl, rfl, trivial⟩) (hj1284 _ _ ⟨l1034, l1235, !(decide (y1307 = p0)), A1034, c1034, A1235, c1235, z1307, hf, rfl, hm1297, hy1238_0, hy1238_1, hz1238, f1308, f1309, (St.forget hst1307 1)⟩)
              · skip
                refine ⟨_, rfl, rfl, One.g <| One.of_ops rfl ?_⟩
                refine Ops.str8 (f1.at_ hst1307) rfl Try.underlying30 Try.underlying5 Try.underlying9 rfl (Ops.stop ?_)
                have hS0 := (⟨_, _, hm1297, (St.up (St.up (St.up hst1307 3 rfl) 3 rfl) 2 rfl)⟩ : (fun w => ∃ ζ Y, Le z1231 ζ ∧ Ht w0 (frz ζ :: (blk g11 [.slice A1034 l1034.length c1034, .slice A1235 l1235.length c1235, vi y7.1] 29) :: (blk g2 [.slice none 0 0, .slice none 0 0, vi 0] 29) :: Y) w) _)
                refine ⟨⟨.inr (fun _ => hS0), .inl (by decide), .inl (by decide), .inl (by decide), trivial⟩, ?_⟩
                refine Any.one 6 (by kernel_rfl) rfl rfl (One.g <| One.of_ops rfl ?_)
                refine Ops.str8 (f1310.at_ hst1307) rfl Try.underlying30 Try.underlying5 Try.underlying9 rfl (Ops.stop ?_)
                have hS0 := (⟨_, _, hm1297, (St.up (St.up (St.up hst1307 3 rfl) 3 rfl) 2 rfl)⟩ : (fun w => ∃ ζ Y, Le z1231 ζ ∧ Ht w0 (frz ζ :: (blk g11 [.slice A1034 l1034.length c1034, .slice A1235 l1235.length c1235, vi y7.1] 29) :: (blk g2 [.slice none 0 0, .slice none 0 0, vi 0] 29) :: Y) w) _)
                refine ⟨⟨.inr (fun _ => hS0), .inl (by decide), .inl (by decide), .inl (by decide), trivial⟩, ?_⟩
                refine Any.takeE 9 rfl rfl rfl rfl (by kernel_rfl) (fun _ _ _ _ _ h => h) (ExS.g ((Ex.neqT rfl rfl).s)) ?_
                refine Any.takeE 10 rfl rfl rfl rfl (by kernel_rfl) (fun _ _ _ _ _ h => h) ((Ex.pickF rfl rfl).s) ?_
                refine Any.done (by kernel_rfl) ?_
                exact Run.sub (by exact subB_spec ⟨rfl, rfl, rfl, trivial⟩) (hj1284 _ _ ⟨l1034, l1235, !(decide (y1307 = p0)), A1034, c1034, A1235, c1235, z1307, hf, rfl, hm1297, hy1238_0, hy1238_1, hz1238, f1308, f1309, (St.forget hst1307 1)⟩)
            · skip
              refine ⟨_, rfl, rfl, One.g <| One.of_ops rfl ?_⟩
              refine Ops.str8 (f1.at_ hst1303) rfl Try.underlying30 Try.underlying5 Try.underlying9 rfl (Ops.stop ?_)
              have hS0 := (⟨_, _, hm1297, (St.up (St.up (St.up hst1303 5 rfl) 5 rfl) 2 rfl)⟩ : (fun w => ∃ ζ Y, Le z1231 ζ ∧ Ht w0 (frz ζ :: (blk g11 [.slice A1034 l1034.length c1034, .slice A1235 l1235.length c1235, vi y7.1] 29) :: (blk g2 [.slice none 0 0, .slice none 0 0, vi 0] 29) :: Y) w) _)
              refine ⟨⟨.inr (fun _ => hS0), .inl (by decide), .inl (by decide), .inl (by decide), trivial⟩, ?_⟩
              obtain ⟨z1312, hz1312, f1312, hst1312⟩ := St.freeze (τ := tapiRef) (xs := l1034) (St.up (St.up (St.up (St.up (St.up (St.up hst1303 5 rfl) 5 rfl) 4 rfl) 4 rfl) 5 rfl) 5 rfl) f1034 rfl
              replace f1 := f1.mono hz1312; replace f1233 := f1233.mono hz1312; replace f1235 := f1235.mono hz1312
              replace hy1238_0 := hy1238_0.trans hz1312
              replace hy1238_1 := hy1238_1.trans hz1312
              replace hz1238 := hz1238.trans hz1312
              replace hm1297 := hm1297.trans hz1312
              obtain ⟨z1313, hz1313, f1313, hst1313⟩ := St.freeze (τ := tS) (xs := l1235) (St.up (St.up (St.up (St.up (St.up hst1312 4 rfl) 4 rfl) 3 rfl) 4 rfl) 4 rfl) f1235 rfl
              replace f1 := f1.mono hz1313; replace f1312 := f1312.mono hz1313; replace f1233 := f1233.mono hz1313
              replace hy1238_0 := hy1238_0.trans hz1313
              replace hy1238_1 := hy1238_1.trans hz1313
              replace hz1238 := hz1238.trans hz1313
              replace hm1297 := hm1297.trans hz1313
              obtain ⟨y1311, hy1311, hf⟩ := bnd hf
              refine Any.one 5 (by kernel_rfl) rfl rfl (One.g <| One.of_ops rfl ?_)
              refine Ops.call rfl rfl Try.func18 (by kernel_rfl) (by kernel_rfl) rfl (go_edits_Bytes.walk (p0 := (⟨l1034, l1235, y7.1⟩ : editsEdit)) (hst := hst1313) (f1 := f1312) (f2 := f1313) (hf := hy1311)) ?_
              rintro _ w1311 ⟨z1311, A1314, c1314, rfl, hz1311, f1314, hst1311⟩
              refine ⟨_, rfl, Ops.stop ?_⟩
              replace f1 := f1.mono hz1311; replace f1312 := f1312.mono hz1311; replace f1313 := f1313.mono hz1311; replace f1233 := f1233.mono hz1311
              replace hy1238_0 := hy1238_0.trans hz1311
              replace hy1238_1 := hy1238_1.trans hz1311
              replace hz1238 := hz1238.trans hz1311
              replace hm1297 := hm1297.trans hz1311
              have hS0 := (⟨_, _, hm1297, (St.up (St.up (St.up hst1311 3 rfl) 3 rfl) 2 rfl)⟩ : (fun w => ∃ ζ Y, Le z1231 ζ ∧ Ht w0 (frz ζ :: (blk g11 [.slice A1034 l1034.length c1034, .slice A1235 l1235.length c1235, vi y7.1] 29) :: (blk g2 [.slice none 0 0, .slice none 0 0, vi 0] 29) :: Y) w) _)
              refine ⟨⟨.inr (fun _ => hS0), .inl (by decide), .inl (by decide), .inl (by decide), trivial⟩, ?_⟩
              refine Any.one 6 (by kernel_rfl) rfl rfl (One.g <| One.of_ops rfl ?_)
              refine Ops.str8 (f1314.at_ hst1311) rfl Try.underlying30 Try.underlying5 Try.underlying9 rfl (Ops.stop ?_)
              have hS0 := (⟨_, _, hm1297, (St.up (St.up (St.up hst1311 3 rfl) 3 rfl) 2 rfl)⟩ : (fun w => ∃ ζ Y, Le z1231 ζ ∧ Ht w0 (frz ζ :: (blk g11 [.slice A1034 l1034.length c1034, .slice A1235 l1235.length c1235, vi y7.1] 29) :: (blk g2 [.slice none 0 0, .slice none 0 0, vi 0] 29) :: Y) w) _)
              refine ⟨⟨.inr (fun _ => hS0), .inl (by decide), .inl (by decide), .inl (by decide), trivial⟩, ?_⟩
              refine Any.takeE 9 rfl rfl rfl rfl (by kernel_rfl) (fun _ _ _ _ _ h => h) (ExS.g ((Ex.neqT rfl rfl).s)) ?_
              refine Any.takeE 10 rfl rfl rfl rfl (by kernel_rfl) (fun _ _ _ _ _ h => h) ((Ex.pickF rfl rfl).s) ?_
              refine Any.done (by kernel_rfl) ?_
              exact Run.sub (by exact subB_spec ⟨rfl, rfl, rfl, trivial⟩) (hj1284 _ _ ⟨l1034, l1235, !(decide (y1311 = p0)), A1034, c1034, A1235, c1235, z1311, hf, rfl, hm1297, hy1238_0, hy1238_1, hz1238, f1312, f1313, (St.forget hst1311 1)⟩)
        · rintro e' w1315 ⟨l1299, l1300, b1301, A1299, c1299, A1300, c1300, z1298, hf, rfl, hz1315, hy1315_0, hy1315_1, hy1315_2, f1299, f1300, hst1315⟩
          unfold go_edits_Read.j2 at hf
          refine Run.cond rfl (fun hc => ?_) (fun hc => ?_)
          · replace hf := ifTb hc hf
            refine Run.seq ?_
            refine Run.region ?_
            refine Ops.ex (Ex.build [.slice none 0 0, .slice none 0 0, vi 0] rfl Try.underlying29 zr29 (pl29 Try.underlying29) (by kernel_rfl)) rfl rfl rfl ?_
            refine Ops.store 2 [.slice none 0 0, .slice none 0 0, vi 0] hst1315 rfl rfl rfl rfl sz29 rfl (by simp [Value.oneCell']) (by simp) (fun w1316 hst1316 => ?_)
            refine Ops.ex (Ex.assign rfl) rfl rfl rfl ?_
            refine Ops.nil ?_
            obtain rfl := Option.some.inj hf
            exact Run.retV [.agg #[.slice none 0 0, .slice none 0 0, vi 0], vb false] rfl ⟨⟨_, rfl, run_loadN _ Try.underlying29 rfl sz29 rfl (hst1316.cells (i := 2) rfl 0 3)⟩, rfl, trivial⟩ ⟨z1298, none, 0, none, 0, rfl, hy1315_0, (Sl.nil _ _), (Sl.nil _ _), (St.forget (St.forget hst1316 2) 1)⟩
          · replace hf := ifFb hc hf
            refine Run.skip ?_
            refine Run.seq ?_
            refine Run.region ?_
            refine Ops.loadAgg _ rfl Try.underlying29 rfl sz29 rfl (hst1315.cells (i := 1) rfl 0 3) rfl ?_
            refine Ops.store 2 [.slice A1299 l1299.length c1299, .slice A1300 l1300.length c1300, vi y7.1] hst1315 rfl rfl rfl rfl sz29 rfl (by simp [Value.oneCell']) (by simp) (fun w1317 hst1317 => ?_)
            refine Ops.ex (Ex.assign rfl) rfl rfl rfl ?_
            refine Ops.nil ?_
            obtain rfl := Option.some.inj hf
            exact Run.retV [.agg #[.slice A1299 l1299.length c1299, .slice A1300 l1300.length c1300, vi y7.1], vb true] rfl ⟨⟨_, rfl, run_loadN _ Try.underlying29 rfl sz29 rfl (hst1317.cells (i := 2) rfl 0 3)⟩, rfl, trivial⟩ ⟨z1298, A1299, c1299, A1300, c1300, rfl, hy1315_0, f1299, f1300, (St.forget (St.forget hst1317 2) 1)⟩
  · replace hf := ifF (dec_F hc) hf
    refine Ops.off rfl rfl ?_
    refine Ops.off rfl rfl ?_
    refine Ops.off rfl rfl ?_
    refine Ops.ex (Ex.pickF rfl rfl) rfl rfl rfl ?_
    refine Ops.nil ?_
    refine Run.condF rfl rfl ?_
    refine Run.exit _ rfl ?_
    refine Run.seq ?_
    refine Run.seq ?_
    refine Run.region ?_
    refine Ops.ex (Ex.move rfl) rfl rfl rfl ?_
    obtain ⟨y1318, hy1318, hf⟩ := bnd hf
    refine Ops.call rfl rfl Try.func39 (by kernel_rfl) (by kernel_rfl) rfl (go_pack_Reader_Num.walk (p0 := (⟨l1032, b1033⟩ : packReader)) (hst := (St.up (St.up (St.up (St.up (St.up hst1037 4 rfl) 4 rfl) 3 rfl) 4 rfl) 4 rfl)) (f1 := f1032) (hf := hy1318)) ?_
    rintro _ w1318 ⟨z1318, A1320, c1320, rfl, hz1318, f1320, hst1318⟩
    refine ⟨_, rfl, ?_⟩
    replace f1 := f1.mono hz1318; replace f1034 := f1034.mono hz1318
    replace hy1037_0 := hy1037_0.trans hz1318
    replace hz1037 := hz1037.trans hz1318
    refine Ops.ex (Ex.assign rfl) rfl rfl rfl ?_
    refine Ops.nil ?_
    refine Run.block ?_
    have hm1323 := Le.refl z1318
    have hst1490 := hst1318.row0 9 1
    refine Run.sub (e' := [(0, .slice A1 p0.length c1), (2, .pointer (some ⟨g2, 0, none⟩)), (4, .pointer (some ⟨g4, 0, none⟩)), (5, .pointer (some ⟨g11, 0, none⟩)), (8, vi y1318.1)]) (subB_spec ⟨rfl, rfl, rfl, rfl, rfl, trivial⟩) ?_
    refine Run.loop (fun mb1322 => (fun e' w' => ∃ (x1486 : Int) (l1487 : List UInt8) (b1488 : Bool) (l1489 : List Str) (A1487 : Option Addr) (c1487 : Nat) (A1489 : Option Addr) (c1489 : Nat) (d1489 : List Value) (z1485 : Zp), loopF (go_edits_Read.b3 p0 y7 l1034) mb1322 (x1486, l1487, b1488, l1489) = some r ∧ e' = [(0, .slice A1 p0.length c1), (2, .pointer (some ⟨g2, 0, none⟩)), (4, .pointer (some ⟨g4, 0, none⟩)), (5, .pointer (some ⟨g11, 0, none⟩)), (8, vi x1486)] ∧ Le z1318 z1485 ∧ Le z0 z1485 ∧ Le z13 z1485 ∧ Sl tU8 z1485 A1487 c1487 l1487 ∧ Cs tS z1485 d1489 l1489 ∧ Ht w0 (frz z1485 :: (orow 9 1 (.slice A1489 l1489.length c1489) l1489.length d1489) :: (blk g4 [.slice A1487 l1487.length c1487, vb b1488] 97) :: (orow 24 4 (.slice A1034 l1034.length c1034) l1034.length d1034) :: (blk g11 [.slice A1034 l1034.length c1034, .slice A1489 l1489.length c1489, vi y7.1] 29) :: (blk g2 [.slice none 0 0, .slice none 0 0, vi 0] 29) :: X) w')) fuel ⟨y1318.1, y1318.2.b_, y1318.2.bad_, [], A1320, c1320, none, 0, [], z1318, hf, rfl, hm1323, hy1037_0, hz1037, f1320, (Cs.nil _ _), hst1490⟩ ?_
    rintro mb1322 e' w1492 ⟨x1486, l1487, b1488, l1489, A1487, c1487, A1489, c1489, d1489, z1485, hf, rfl, hz1492, hy1492_0, hy1492_1, f1487, f1489, hst1492⟩
    replace f1 := f1.mono hz1492; replace f1034 := f1034.mono hz1492
    obtain ⟨mb1322', nxb1322, rfl, hnxb1322, hf⟩ := loopF_in hf
    unfold go_edits_Read.b3 at hf
    try dsimp only at hf
    refine Run.seq ?_
    refine Run.seq ?_
    refine Run.region ?_
    refine Ops.ex (Ex.move rfl) rfl rfl rfl ?_
    refine Ops.ex (Ex.gtr rfl rfl) rfl rfl rfl ?_
    refine Ops.ex (Ex.move rfl) rfl rfl rfl ?_
    refine Ops.case 48 rfl (fun hc => ?_) (fun hc => ?_)
    · replace hf := ifT (dec_T hc) hf
      refine Ops.on rfl ?_
      refine Ops.ex (Ex.move rfl) rfl rfl rfl ?_
      refine Ops.on rfl ?_
      obtain ⟨y1493, hy1493, hf⟩ := bnd hf
      refine Ops.call rfl rfl Try.func40 (by kernel_rfl) (by kernel_rfl) rfl (go_pack_Reader_Bad.walk (p0 := (⟨l1487, b1488⟩ : packReader)) (hst := (St.up (St.up (St.up (St.up (St.up (St.up hst1492 5 rfl) 5 rfl) 5 rfl) 4 rfl) 5 rfl) 5 rfl)) (f1 := f1487) (hf := hy1493)) ?_
      rintro _ w1493 ⟨z1493, rfl, hz1493, hst1493⟩
      refine ⟨_, rfl, ?_⟩
      replace f1 := f1.mono hz1493; replace f1487 := f1487.mono hz1493; replace f1489 := f1489.mono hz1493; replace f1034 := f1034.mono hz1493
      replace hy1492_0 := hy1492_0.trans hz1493
      replace hy1492_1 := hy1492_1.trans hz1493
      replace hz1492 := hz1492.trans hz1493
      refine Ops.on rfl ?_
      refine Ops.ex (Ex.not rfl) rfl rfl rfl ?_
      refine Ops.ex (Ex.pickT rfl rfl) rfl rfl rfl ?_
      refine Ops.nil ?_
      refine Run.cond rfl (fun hc => ?_) (fun hc => ?_)
      · replace hf := ifFb (bn_T hc) hf
        refine Run.skip ?_
        refine Run.seq ?_
        refine Run.block ?_
        have hm1496 := Le.refl z1493
        refine Run.drawH [([], fun w => ∃ ζ Y, Le z1493 ζ ∧ Ht w0 (frz ζ :: (orow 24 4 (.slice A1034 l1034.length c1034) l1034.length d1034) :: (blk g2 [.slice none 0 0, .slice none 0 0, vi 0] 29) :: Y) w), ([3, 4, 5, 7], fun w => ∃ ζ Y, Le z1493 ζ ∧ Ht w0 (frz ζ :: (blk g4 [.slice A1487 l1487.length c1487, vb b1488] 97) :: Y) w), ([5, 7], fun w => ∃ ζ Y, Le z1493 ζ ∧ Ht w0 (frz ζ :: (orow 9 1 (.slice A1489 l1489.length c1489) l1489.length d1489) :: Y) w), ([7], fun w => ∃ ζ Y, Le z1493 ζ ∧ Ht w0 (frz ζ :: (blk g11 [.slice A1034 l1034.length c1034, .slice A1489 l1489.length c1489, vi y7.1] 29) :: Y) w)] (by kernel_rfl) hst1493 (fun w1495 hst1495 => ?_)
        have hS0 := (⟨_, _, (Le.refl _), (St.up (St.up (St.up hst1495 5 rfl) 4 rfl) 2 rfl)⟩ : (fun w => ∃ ζ Y, Le z1493 ζ ∧ Ht w0 (frz ζ :: (orow 24 4 (.slice A1034 l1034.length c1034) l1034.length d1034) :: (blk g2 [.slice none 0 0, .slice none 0 0, vi 0] 29) :: Y) w) _)
        have hS1 := (⟨_, _, (Le.refl _), (St.up (St.up hst1495 1 rfl) 1 rfl)⟩ : (fun w => ∃ ζ Y, Le z1493 ζ ∧ Ht w0 (frz ζ :: (blk g4 [.slice A1487 l1487.length c1487, vb b1488] 97) :: Y) w) _)
        have hS2 := (⟨_, _, (Le.refl _), (St.up (St.up hst1495 2 rfl) 1 rfl)⟩ : (fun w => ∃ ζ Y, Le z1493 ζ ∧ Ht w0 (frz ζ :: (orow 9 1 (.slice A1489 l1489.length c1489) l1489.length d1489) :: Y) w) _)
        have hS3 := (⟨_, _, (Le.refl _), (St.up (St.up hst1495 4 rfl) 1 rfl)⟩ : (fun w => ∃ ζ Y, Le z1493 ζ ∧ Ht w0 (frz ζ :: (blk g11 [.slice A1034 l1034.length c1034, .slice A1489 l1489.length c1489, vi y7.1] 29) :: Y) w) _)
        refine Any.takeE 0 rfl rfl rfl rfl (by kernel_rfl) (fun _ _ _ _ _ h => h) ((Ex.fieldAddr rfl Try.underlying29 rfl sz27).s) ?_
        refine Any.take 3 1 rfl rfl rfl rfl rfl (by kernel_rfl) (fun _ _ _ _ _ h => h) (ExS.load rfl Try.underlying27 rfl (fun w hS => by obtain ⟨_, _, _, hs⟩ := hS; exact hs.cell (i := 1) rfl rfl)) hS3 ?_
        refine Any.takeE 2 rfl rfl rfl rfl (by kernel_rfl) (fun _ _ _ _ _ h => h) ((Ex.move rfl).s) ?_
        obtain ⟨y1497, hy1497, hf⟩ := bnd hf
        refine Any.one 3 (by kernel_rfl) rfl rfl (One.of_ops rfl ?_)
        refine Ops.call rfl rfl Try.func41 (by kernel_rfl) (by kernel_rfl) rfl (go_pack_Reader_Text.walk (p0 := (⟨l1487, b1488⟩ : packReader)) (hst := hst1495) (f1 := f1487) (hf := hy1497)) ?_
        rintro _ w1497 ⟨z1497, A1499, c1499, rfl, hz1497, f1499, hst1497⟩
        refine ⟨_, rfl, Ops.stop ?_⟩
        replace f1 := f1.mono hz1497; replace f1489 := f1489.mono hz1497; replace f1034 := f1034.mono hz1497
        replace hy1492_0 := hy1492_0.trans hz1497
        replace hy1492_1 := hy1492_1.trans hz1497
        replace hz1492 := hz1492.trans hz1497
        replace hm1496 := hm1496.trans hz1497
        have hS0 := (⟨_, _, hm1496, (St.up (St.up (St.up hst1497 5 rfl) 4 rfl) 2 rfl)⟩ : (fun w => ∃ ζ Y, Le z1493 ζ ∧ Ht w0 (frz ζ :: (orow 24 4 (.slice A1034 l1034.length c1034) l1034.length d1034) :: (blk g2 [.slice none 0 0, .slice none 0 0, vi 0] 29) :: Y) w) _)
        have hS2 := (⟨_, _, hm1496, (St.up (St.up hst1497 2 rfl) 1 rfl)⟩ : (fun w => ∃ ζ Y, Le z1493 ζ ∧ Ht w0 (frz ζ :: (orow 9 1 (.slice A1489 l1489.length c1489) l1489.length d1489) :: Y) w) _)
        have hS3 := (⟨_, _, hm1496, (St.up (St.up hst1497 4 rfl) 1 rfl)⟩ : (fun w => ∃ ζ Y, Le z1493 ζ ∧ Ht w0 (frz ζ :: (blk g11 [.slice A1034 l1034.length c1034, .slice A1489 l1489.length c1489, vi y7.1] 29) :: Y) w) _)
        refine ⟨⟨.inr (fun _ => hS0), .inl (by decide), .inr (fun _ => hS2), .inr (fun _ => hS3), trivial⟩, ?_⟩
        refine Any.one 4 (by kernel_rfl) rfl rfl (One.of_ops rfl ?_)
        refine Ops.sliceF [vs y1497.1] hst1497 rfl Try.underlying27 sz9 zr9 rfl rfl (by kernel_rfl) rfl (by simp [Value.oneCell']) rfl (fun A1501 w1501 hst1501 => Ops.stop ?_)
        have f1501 : Cs tS z1497 [vs y1497.1] [y1497.1] := (Cs.cons (c := [vs y1497.1]) rfl (Cs.nil _ _))
        have hS0 := (⟨_, _, hm1496, (St.up (St.up (St.up hst1501 6 rfl) 5 rfl) 2 rfl)⟩ : (fun w => ∃ ζ Y, Le z1493 ζ ∧ Ht w0 (frz ζ :: (orow 24 4 (.slice A1034 l1034.length c1034) l1034.length d1034) :: (blk g2 [.slice none 0 0, .slice none 0 0, vi 0] 29) :: Y) w) _)
        have hS2 := (⟨_, _, hm1496, (St.up (St.up hst1501 3 rfl) 1 rfl)⟩ : (fun w => ∃ ζ Y, Le z1493 ζ ∧ Ht w0 (frz ζ :: (orow 9 1 (.slice A1489 l1489.length c1489) l1489.length d1489) :: Y) w) _)
        have hS3 := (⟨_, _, hm1496, (St.up (St.up hst1501 5 rfl) 1 rfl)⟩ : (fun w => ∃ ζ Y, Le z1493 ζ ∧ Ht w0 (frz ζ :: (blk g11 [.slice A1034 l1034.length c1034, .slice A1489 l1489.length c1489, vi y7.1] 29) :: Y) w) _)
        refine ⟨⟨.inr (fun _ => hS0), .inl (by decide), .inr (fun _ => hS2), .inr (fun _ => hS3), trivial⟩, ?_⟩
        obtain ⟨l1502, hy1502, hf⟩ := bnd hf
        refine Any.one 5 (by kernel_rfl) rfl rfl (One.of_ops rfl ?_)
        refine Ops.app 3 hst1501 rfl f1489 rfl (own_slh f1501 rfl (hst1501.get (i := 1) rfl)) rfl hy1502 rfl rfl rfl rfl Try.underlying27 inf9 rfl (by decide) (by decide) rfl (fun A1502 c1502 d1502 w1502 f1502 hst1502 => Ops.stop ?_)
        have hS0 := (⟨_, _, hm1496, (St.up (St.up (St.up hst1502 6 rfl) 5 rfl) 2 rfl)⟩ : (fun w => ∃ ζ Y, Le z1493 ζ ∧ Ht w0 (frz ζ :: (orow 24 4 (.slice A1034 l1034.length c1034) l1034.length d1034) :: (blk g2 [.slice none 0 0, .slice none 0 0, vi 0] 29) :: Y) w) _)
        have hS3 := (⟨_, _, hm1496, (St.up (St.up hst1502 5 rfl) 1 rfl)⟩ : (fun w => ∃ ζ Y, Le z1493 ζ ∧ Ht w0 (frz ζ :: (blk g11 [.slice A1034 l1034.length c1034, .slice A1489 l1489.length c1489, vi y7.1] 29) :: Y) w) _)
        refine ⟨⟨.inr (fun _ => hS0), .inl (by decide), .inl (by decide), .inr (fun _ => hS3), trivial⟩, ?_⟩
        refine Any.takeE 6 rfl rfl rfl rfl (by kernel_rfl) (fun _ _ _ _ _ h => h) ((Ex.fieldAddr rfl Try.underlying29 rfl sz27).s) ?_
        refine Any.one 7 (by kernel_rfl) rfl rfl (One.of_ops rfl ?_)
        refine Ops.store 5 [.slice A1502 l1502.length c1502] hst1502 rfl rfl rfl rfl sz27 rfl (by simp [Value.oneCell']) (by simp) (fun w1503 hst1503 => Ops.stop ?_)
        have hS0 := (⟨_, _, hm1496, (St.up (St.up (St.up hst1503 6 rfl) 5 rfl) 2 rfl)⟩ : (fun w => ∃ ζ Y, Le z1493 ζ ∧ Ht w0 (frz ζ :: (orow 24 4 (.slice A1034 l1034.length c1034) l1034.length d1034) :: (blk g2 [.slice none 0 0, .slice none 0 0, vi 0] 29) :: Y) w) _)
        refine ⟨⟨.inr (fun _ => hS0), .inl (by decide), .inl (by decide), .inl (by decide), trivial⟩, ?_⟩
        refine Any.done (by kernel_rfl) ?_
        refine Run.endBlk ?_
        refine Run.region ?_
        refine Ops.ex (Ex.move rfl) rfl rfl rfl ?_
        refine Ops.ex (Ex.sub rfl rfl) rfl rfl rfl ?_
        refine Ops.ex (Ex.assign rfl) rfl rfl rfl ?_
        refine Ops.nil ?_
        exact Run.sub (by exact subB_spec ⟨rfl, rfl, rfl, rfl, rfl, trivial⟩) (Run.stop ⟨mb1322', Nat.lt_succ_self _, wr (x1486 - 1), y1497.2.b_, y1497.2.bad_, l1502, A1499, c1499, A1502, c1502, d1502, z1497, (hnxb1322 _).symm.trans hf, rfl, hz1492, hy1492_0, hy1492_1, f1499, f1502, (St.up (St.up (St.up (St.up (St.up (St.up (St.forget hst1503 1) 5 rfl) 5 rfl) 5 rfl) 4 rfl) 5 rfl) 5 rfl)⟩)
      · replace hf := ifTb (bn_F hc) hf
        refine Run.exit _ rfl ?_
        refine Run.seq ?_
        refine Run.seq ?_
        have hm1517 := Le.refl z1493
        apply Run.jn (fun e' w' => ∃ (l1519 : List apiRef) (l1520 : List Str) (b1521 : Bool) (A1519 : Option Addr) (c1519 : Nat) (A1520 : Option Addr) (c1520 : Nat) (z1518 : Zp), go_edits_Read.j3 y7 l1519 l1520 b1521 = some r ∧ e' = [(2, .pointer (some ⟨g2, 0, none⟩)), (5, .pointer (some ⟨g11, 0, none⟩)), (72, vb b1521)] ∧ Le z1493 z1518 ∧ Le z0 z1518 ∧ Le z13 z1518 ∧ Le z1318 z1518 ∧ Sl tapiRef z1518 A1519 c1519 l1519 ∧ Sl tS z1518 A1520 c1520 l1520 ∧ Ht w0 (frz z1518 :: (blk g11 [.slice A1519 l1519.length c1519, .slice A1520 l1520.length c1520, vi y7.1] 29) :: (blk g2 [.slice none 0 0, .slice none 0 0, vi 0] 29) :: X) w')
        · intro hj1504
          refine Run.drawH [([], fun w => ∃ ζ Y, Le z1493 ζ ∧ Ht w0 (frz ζ :: (blk g11 [.slice A1034 l1034.length c1034, .slice A1489 l1489.length c1489, vi y7.1] 29) :: (blk g2 [.slice none 0 0, .slice none 0 0, vi 0] 29) :: Y) w), ([1, 5, 6, 8], fun w => ∃ ζ Y, Le z1493 ζ ∧ Ht w0 (frz ζ :: (blk g4 [.slice A1487 l1487.length c1487, vb b1488] 97) :: Y) w), ([5, 6, 8], fun w => ∃ ζ Y, Le z1493 ζ ∧ Ht w0 (frz ζ :: (orow 24 4 (.slice A1034 l1034.length c1034) l1034.length d1034) :: Y) w), ([5, 6, 8], fun w => ∃ ζ Y, Le z1493 ζ ∧ Ht w0 (frz ζ :: (orow 9 1 (.slice A1489 l1489.length c1489) l1489.length d1489) :: Y) w)] (by kernel_rfl) hst1493 (fun w1522 hst1522 => ?_)
          have hS0 := (⟨_, _, (Le.refl _), (St.up (St.up (St.up hst1522 5 rfl) 5 rfl) 2 rfl)⟩ : (fun w => ∃ ζ Y, Le z1493 ζ ∧ Ht w0 (frz ζ :: (blk g11 [.slice A1034 l1034.length c1034, .slice A1489 l1489.length c1489, vi y7.1] 29) :: (blk g2 [.slice none 0 0, .slice none 0 0, vi 0] 29) :: Y) w) _)
          have hS1 := (⟨_, _, (Le.refl _), (St.up (St.up hst1522 1 rfl) 1 rfl)⟩ : (fun w => ∃ ζ Y, Le z1493 ζ ∧ Ht w0 (frz ζ :: (blk g4 [.slice A1487 l1487.length c1487, vb b1488] 97) :: Y) w) _)
          have hS2 := (⟨_, _, (Le.refl _), (St.up (St.up hst1522 3 rfl) 1 rfl)⟩ : (fun w => ∃ ζ Y, Le z1493 ζ ∧ Ht w0 (frz ζ :: (orow 24 4 (.slice A1034 l1034.length c1034) l1034.length d1034) :: Y) w) _)
          have hS3 := (⟨_, _, (Le.refl _), (St.up (St.up hst1522 2 rfl) 1 rfl)⟩ : (fun w => ∃ ζ Y, Le z1493 ζ ∧ Ht w0 (frz ζ :: (orow 9 1 (.slice A1489 l1489.length c1489) l1489.length d1489) :: Y) w) _)
          refine Any.takeE 0 rfl rfl rfl rfl (by kernel_rfl) (fun _ _ _ _ _ h => h) ((Ex.move rfl).s) ?_
          obtain ⟨y1523, hy1523, hf⟩ := bnd hf
          refine Any.one 1 (by kernel_rfl) rfl rfl (One.of_ops rfl ?_)
          refine Ops.call rfl rfl Try.func43 (by kernel_rfl) (by kernel_rfl) rfl (go_pack_Reader_Done.walk (p0 := (⟨l1487, b1488⟩ : packReader)) (hst := hst1522) (f1 := f1487) (hf := hy1523)) ?_
          rintro _ w1523 ⟨z1523, rfl, hz1523, hst1523⟩
          refine ⟨_, rfl, Ops.stop ?_⟩
          replace f1 := f1.mono hz1523; replace f1487 := f1487.mono hz1523; replace f1489 := f1489.mono hz1523; replace f1034 := f1034.mono hz1523
          replace hy1492_0 := hy1492_0.trans hz1523
          replace hy1492_1 := hy1492_1.trans hz1523
          replace hz1492 := hz1492.trans hz1523
          replace hm1517 := hm1517.trans hz1523
          have hS0 := (⟨_, _, hm1517, (St.up (St.up (St.up hst1523 5 rfl) 5 rfl) 2 rfl)⟩ : (fun w => ∃ ζ Y, Le z1493 ζ ∧ Ht w0 (frz ζ :: (blk g11 [.slice A1034 l1034.length c1034, .slice A1489 l1489.length c1489, vi y7.1] 29) :: (blk g2 [.slice none 0 0, .slice none 0 0, vi 0] 29) :: Y) w) _)
          have hS2 := (⟨_, _, hm1517, (St.up (St.up hst1523 3 rfl) 1 rfl)⟩ : (fun w => ∃ ζ Y, Le z1493 ζ ∧ Ht w0 (frz ζ :: (orow 24 4 (.slice A1034 l1034.length c1034) l1034.length d1034) :: Y) w) _)
          have hS3 := (⟨_, _, hm1517, (St.up (St.up hst1523 2 rfl) 1 rfl)⟩ : (fun w => ∃ ζ Y, Le z1493 ζ ∧ Ht w0 (frz ζ :: (orow 9 1 (.slice A1489 l1489.length c1489) l1489.length d1489) :: Y) w) _)
          refine ⟨⟨.inr (fun _ => hS0), .inl (by decide), .inr (fun _ => hS2), .inr (fun _ => hS3), trivial⟩, ?_⟩
          refine Any.takeE 2 rfl rfl rfl rfl (by kernel_rfl) (fun _ _ _ _ _ h => h) ((Ex.not rfl).s) ?_
          refine Any.takeE 3 rfl rfl rfl rfl (by kernel_rfl) (fun _ _ _ _ _ h => h) ((Ex.move rfl).s) ?_
          refine Any.case 65 rfl (fun hc => ?_) (fun hc => ?_)
          · replace hf := ifFb (bn_T hc) hf
            refine Any.pass 4 rfl rfl rfl rfl (by kernel_rfl) (fun _ _ _ _ _ h => h) ?_
            refine Any.pass 5 rfl rfl rfl rfl (by kernel_rfl) (fun _ _ _ _ _ h => h) ?_
            refine Any.pass 6 rfl rfl rfl rfl (by kernel_rfl) (fun _ _ _ _ _ h => h) ?_
            refine Any.pass 7 rfl rfl rfl rfl (by kernel_rfl) (fun _ _ _ _ _ h => h) ?_
            refine Any.pass 8 rfl rfl rfl rfl (by kernel_rfl) (fun _ _ _ _ _ h => h) ?_
            refine Any.pass 9 rfl rfl rfl rfl (by kernel_rfl) (fun _ _ _ _ _ h => h) ?_
            refine Any.takeE 10 rfl rfl rfl rfl (by kernel_rfl) (fun _ _ _ _ _ h => h) ((Ex.pickT rfl rfl).s) ?_
            refine Any.done (by kernel_rfl) ?_
            obtain ⟨z1525, hz1525, f1525, hst1525⟩ := St.freeze (τ := tapiRef) (xs := l1034) (St.up (St.up (St.up (St.up (St.up (St.up hst1523 5 rfl) 5 rfl) 4 rfl) 4 rfl) 5 rfl) 5 rfl) f1034 rfl
            replace f1 := f1.mono hz1525; replace f1487 := f1487.mono hz1525; replace f1489 := f1489.mono hz1525
            replace hy1492_0 := hy1492_0.trans hz1525
            replace hy1492_1 := hy1492_1.trans hz1525
            replace hz1492 := hz1492.trans hz1525
            replace hm1517 := hm1517.trans hz1525
            obtain ⟨z1526, hz1526, f1526, hst1526⟩ := St.freeze (τ := tS) (xs := l1489) (St.up (St.up (St.up (St.up (St.up hst1525 4 rfl) 4 rfl) 3 rfl) 4 rfl) 4 rfl) f1489 rfl
            replace f1 := f1.mono hz1526; replace f1487 := f1487.mono hz1526; replace f1525 := f1525.mono hz1526
            replace hy1492_0 := hy1492_0.trans hz1526
            replace hy1492_1 := hy1492_1.trans hz1526
            replace hz1492 := hz1492.trans hz1526
            replace hm1517 := hm1517.trans hz1526
            exact Run.sub (by exact subB_spec ⟨rfl, rfl, rfl, trivial⟩) (hj1504 _ _ ⟨l1034, l1489, true, A1034, c1034, A1489, c1489, z1526, hf, rfl, hm1517, hy1492_0, hy1492_1, hz1492, f1525, f1526, (St.forget hst1526 1)⟩)
          · replace hf := ifTb (bn_F hc) hf
            refine Any.take 0 4 rfl rfl rfl rfl rfl (by kernel_rfl) (fun _ _ _ _ _ h => h) (ExS.g (ExS.loadAgg [.slice A1034 l1034.length c1034, .slice A1489 l1489.length c1489, vi y7.1] rfl Try.underlying29 rfl sz29 rfl (fun w hS => by obtain ⟨_, _, _, hs⟩ := hS; exact hs.cells (i := 1) rfl 0 3))) hS0 ?_
            refine Any.takeE 7 rfl rfl rfl rfl (by kernel_rfl) (fun _ _ _ _ _ h => h) (ExS.g ((Ex.move rfl).s)) ?_
            refine Any.all [5, 8] (by kernel_rfl) rfl (fun i hi => ?_)
            simp only [List.mem_cons, List.not_mem_nil, or_false] at hi
            rcases hi with rfl | rfl
            · skip
              obtain ⟨z1528, hz1528, f1528, hst1528⟩ := St.freeze (τ := tapiRef) (xs := l1034) (St.up (St.up (St.up (St.up (St.up (St.up hst1523 5 rfl) 5 rfl) 4 rfl) 4 rfl) 5 rfl) 5 rfl) f1034 rfl
              replace f1 := f1.mono hz1528; replace f1487 := f1487.mono hz1528; replace f1489 := f1489.mono hz1528
              replace hy1492_0 := hy1492_0.trans hz1528
              replace hy1492_1 := hy1492_1.trans hz1528
              replace hz1492 := hz1492.trans hz1528
              replace hm1517 := hm1517.trans hz1528
              obtain ⟨z1529, hz1529, f1529, hst1529⟩ := St.freeze (τ := tS) (xs := l1489) (St.up (St.up (St.up (St.up (St.up hst1528 4 rfl) 4 rfl) 3 rfl) 4 rfl) 4 rfl) f1489 rfl
              replace f1 := f1.mono hz1529; replace f1528 := f1528.mono hz1529; replace f1487 := f1487.mono hz1529
              replace hy1492_0 := hy1492_0.trans hz1529
              replace hy1492_1 := hy1492_1.trans hz1529
              replace hz1492 := hz1492.trans hz1529
              replace hm1517 := hm1517.trans hz1529
              obtain ⟨y1527, hy1527, hf⟩ := bnd hf
              refine ⟨_, rfl, rfl, One.g <| One.of_ops rfl ?_⟩
              refine Ops.call rfl rfl Try.func18 (by kernel_rfl) (by kernel_rfl) rfl (go_edits_Bytes.walk (p0 := (⟨l1034, l1489, y7.1⟩ : editsEdit)) (hst := hst1529) (f1 := f1528) (f2 := f1529) (hf := hy1527)) ?_
              rintro _ w1527 ⟨z1527, A1530, c1530, rfl, hz1527, f1530, hst1527⟩
              refine ⟨_, rfl, Ops.stop ?_⟩
              replace f1 := f1.mono hz1527; replace f1528 := f1528.mono hz1527; replace f1529 := f1529.mono hz1527; replace f1487 := f1487.mono hz1527
              replace hy1492_0 := hy1492_0.trans hz1527
              replace hy1492_1 := hy1492_1.trans hz1527
              replace hz1492 := hz1492.trans hz1527
              replace hm1517 := hm1517.trans hz1527
              have hS0 := (⟨_, _, hm1517, (St.up (St.up (St.up hst1527 3 rfl) 3 rfl) 2 rfl)⟩ : (fun w => ∃ ζ Y, Le z1493 ζ ∧ Ht w0 (frz ζ :: (blk g11 [.slice A1034 l1034.length c1034, .slice A1489 l1489.length c1489, vi y7.1] 29) :: (blk g2 [.slice none 0 0, .slice none 0 0, vi 0] 29) :: Y) w) _)
              refine ⟨⟨.inr (fun _ => hS0), .inl (by decide), .inl (by decide), .inl (by decide), trivial⟩, ?_⟩
              refine Any.all [6, 8] (by kernel_rfl) rfl (fun i hi => ?_)
              simp only [List.mem_cons, List.not_mem_nil, or_false] at hi
              rcases hi with rfl | rfl
              · skip
                refine ⟨_, rfl, rfl, One.g <| One.of_ops rfl ?_⟩
                refine Ops.str8 (f1530.at_ hst1527) rfl Try.underlying30 Try.underlying5 Try.underlying9 rfl (Ops.stop ?_)
                have hS0 := (⟨_, _, hm1517, (St.up (St.up (St.up hst1527 3 rfl) 3 rfl) 2 rfl)⟩ : (fun w => ∃ ζ Y, Le z1493 ζ ∧ Ht w0 (frz ζ :: (blk g11 [.slice A1034 l1034.length c1034, .slice A1489 l1489.length c1489, vi y7.1] 29) :: (blk g2 [.slice none 0 0, .slice none 0 0, vi 0] 29) :: Y) w) _)
                refine ⟨⟨.inr (fun _ => hS0), .inl (by decide), .inl (by decide), .inl (by decide), trivial⟩, ?_⟩
                refine Any.one 8 (by kernel_rfl) rfl rfl (One.g <| One.of_ops rfl ?_)
                refine Ops.str8 (f1.at_ hst1527) rfl Try.underlying30 Try.underlying5 Try.underlying9 rfl (Ops.stop ?_)
                have hS0 := (⟨_, _, hm1517, (St.up (St.up (St.up hst1527 3 rfl) 3 rfl) 2 rfl)⟩ : (fun w => ∃ ζ Y, Le z1493 ζ ∧ Ht w0 (frz ζ :: (blk g11 [.slice A1034 l1034.length c1034, .slice A1489 l1489.length c1489, vi y7.1] 29) :: (blk g2 [.slice none 0 0, .slice none 0 0, vi 0] 29) :: Y) w) _)
                refine ⟨⟨.inr (fun _ => hS0), .inl (by decide), .inl (by decide), .inl (by decide), trivial⟩, ?_⟩
                refine Any.takeE 9 rfl rfl rfl rfl (by kernel_rfl) (fun _ _ _ _ _ h => h) (ExS.g ((Ex.neqT rfl rfl).s)) ?_
                refine Any.takeE 10 rfl rfl rfl rfl (by kernel_rfl) (fun _ _ _ _ _ h => h) ((Ex.pickF rfl rfl).s) ?_
                refine Any.done (by kernel_rfl) ?_
                exact Run.sub (by exact subB_spec ⟨rfl, rfl, rfl, trivial⟩) (hj1504 _ _ ⟨l1034, l1489, !(decide (y1527 = p0)), A1034, c1034, A1489, c1489, z1527, hf, rfl, hm1517, hy1492_0, hy1492_1, hz1492, f1528, f1529, (St.forget hst1527 1)⟩)
              · skip
                refine ⟨_, rfl, rfl, One.g <| One.of_ops rfl ?_⟩
                refine Ops.str8 (f1.at_ hst1527) rfl Try.underlying30 Try.underlying5 Try.underlying9 rfl (Ops.stop ?_)
                have hS0 := (⟨_, _, hm1517, (St.up (St.up (St.up hst1527 3 rfl) 3 rfl) 2 rfl)⟩ : (fun w => ∃ ζ Y, Le z1493 ζ ∧ Ht w0 (frz ζ :: (blk g11 [.slice A1034 l1034.length c1034, .slice A1489 l1489.length c1489, vi y7.1] 29) :: (blk g2 [.slice none 0 0, .slice none 0 0, vi 0] 29) :: Y) w) _)
                refine ⟨⟨.inr (fun _ => hS0), .inl (by decide), .inl (by decide), .inl (by decide), trivial⟩, ?_⟩
                refine Any.one 6 (by kernel_rfl) rfl rfl (One.g <| One.of_ops rfl ?_)
                refine Ops.str8 (f1530.at_ hst1527) rfl Try.underlying30 Try.underlying5 Try.underlying9 rfl (Ops.stop ?_)
                have hS0 := (⟨_, _, hm1517, (St.up (St.up (St.up hst1527 3 rfl) 3 rfl) 2 rfl)⟩ : (fun w => ∃ ζ Y, Le z1493 ζ ∧ Ht w0 (frz ζ :: (blk g11 [.slice A1034 l1034.length c1034, .slice A1489 l1489.length c1489, vi y7.1] 29) :: (blk g2 [.slice none 0 0, .slice none 0 0, vi 0] 29) :: Y) w) _)
                refine ⟨⟨.inr (fun _ => hS0), .inl (by decide), .inl (by decide), .inl (by decide), trivial⟩, ?_⟩
                refine Any.takeE 9 rfl rfl rfl rfl (by kernel_rfl) (fun _ _ _ _ _ h => h) (ExS.g ((Ex.neqT rfl rfl).s)) ?_
                refine Any.takeE 10 rfl rfl rfl rfl (by kernel_rfl) (fun _ _ _ _ _ h => h) ((Ex.pickF rfl rfl).s) ?_
                refine Any.done (by kernel_rfl) ?_
                exact Run.sub (by exact subB_spec ⟨rfl, rfl, rfl, trivial⟩) (hj1504 _ _ ⟨l1034, l1489, !(decide (y1527 = p0)), A1034, c1034, A1489, c1489, z1527, hf, rfl, hm1517, hy1492_0, hy1492_1, hz1492, f1528, f1529, (St.forget hst1527 1)⟩)
            · skip
              refine ⟨_, rfl, rfl, One.g <| One.of_ops rfl ?_⟩
              refine Ops.str8 (f1.at_ hst1523) rfl Try.underlying30 Try.underlying5 Try.underlying9 rfl (Ops.stop ?_)
              have hS0 := (⟨_, _, hm1517, (St.up (St.up (St.up hst1523 5 rfl) 5 rfl) 2 rfl)⟩ : (fun w => ∃ ζ Y, Le z1493 ζ ∧ Ht w0 (frz ζ :: (blk g11 [.slice A1034 l1034.length c1034, .slice A1489 l1489.length c1489, vi y7.1] 29) :: (blk g2 [.slice none 0 0, .slice none 0 0, vi 0] 29) :: Y) w) _)
              refine ⟨⟨.inr (fun _ => hS0), .inl (by decide), .inl (by decide), .inl (by decide), trivial⟩, ?_⟩
              obtain ⟨z1532, hz1532, f1532, hst1532⟩ := St.freeze (τ := tapiRef) (xs := l1034) (St.up (St.up (St.up (St.up (St.up (St.up hst1523 5 rfl) 5 rfl) 4 rfl) 4 rfl) 5 rfl) 5 rfl) f1034 rfl
              replace f1 := f1.mono hz1532; replace f1487 := f1487.mono hz1532; replace f1489 := f1489.mono hz1532
              replace hy1492_0 := hy1492_0.trans hz1532
              replace hy1492_1 := hy1492_1.trans hz1532
              replace hz1492 := hz1492.trans hz1532
              replace hm1517 := hm1517.trans hz1532
              obtain ⟨z1533, hz1533, f1533, hst1533⟩ := St.freeze (τ := tS) (xs := l1489) (St.up (St.up (St.up (St.up (St.up hst1532 4 rfl) 4 rfl) 3 rfl) 4 rfl) 4 rfl) f1489 rfl
              replace f1 := f1.mono hz1533; replace f1532 := f1532.mono hz1533; replace f1487 := f1487.mono hz1533
              replace hy1492_0 := hy1492_0.trans hz1533
              replace hy1492_1 := hy1492_1.trans hz1533
              replace hz1492 := hz1492.trans hz1533
              replace hm1517 := hm1517.trans hz1533
              obtain ⟨y1531, hy1531, hf⟩ := bnd hf
              refine Any.one 5 (by kernel_rfl) rfl rfl (One.g <| One.of_ops rfl ?_)
              refine Ops.call rfl rfl Try.func18 (by kernel_rfl) (by kernel_rfl) rfl (go_edits_Bytes.walk (p0 := (⟨l1034, l1489, y7.1⟩ : editsEdit)) (hst := hst1533) (f1 := f1532) (f2 := f1533) (hf := hy1531)) ?_
              rintro _ w1531 ⟨z1531, A1534, c1534, rfl, hz1531, f1534, hst1531⟩
              refine ⟨_, rfl, Ops.stop ?_⟩
              replace f1 := f1.mono hz1531; replace f1532 := f1532.mono hz1531; replace f1533 := f1533.mono hz1531; replace f1487 := f1487.mono hz1531
              replace hy1492_0 := hy1492_0.trans hz1531
              replace hy1492_1 := hy1492_1.trans hz1531
              replace hz1492 := hz1492.trans hz1531
              replace hm1517 := hm1517.trans hz1531
              have hS0 := (⟨_, _, hm1517, (St.up (St.up (St.up hst1531 3 rfl) 3 rfl) 2 rfl)⟩ : (fun w => ∃ ζ Y, Le z1493 ζ ∧ Ht w0 (frz ζ :: (blk g11 [.slice A1034 l1034.length c1034, .slice A1489 l1489.length c1489, vi y7.1] 29) :: (blk g2 [.slice none 0 0, .slice none 0 0, vi 0] 29) :: Y) w) _)
              refine ⟨⟨.inr (fun _ => hS0), .inl (by decide), .inl (by decide), .inl (by decide), trivial⟩, ?_⟩
              refine Any.one 6 (by kernel_rfl) rfl rfl (One.g <| One.of_ops rfl ?_)
              refine Ops.str8 (f1534.at_ hst1531) rfl Try.underlying30 Try.underlying5 Try.underlying9 rfl (Ops.stop ?_)
              have hS0 := (⟨_, _, hm1517, (St.up (St.up (St.up hst1531 3 rfl) 3 rfl) 2 rfl)⟩ : (fun w => ∃ ζ Y, Le z1493 ζ ∧ Ht w0 (frz ζ :: (blk g11 [.slice A1034 l1034.length c1034, .slice A1489 l1489.length c1489, vi y7.1] 29) :: (blk g2 [.slice none 0 0, .slice none 0 0, vi 0] 29) :: Y) w) _)
              refine ⟨⟨.inr (fun _ => hS0), .inl (by decide), .inl (by decide), .inl (by decide), trivial⟩, ?_⟩
              refine Any.takeE 9 rfl rfl rfl rfl (by kernel_rfl) (fun _ _ _ _ _ h => h) (ExS.g ((Ex.neqT rfl rfl).s)) ?_
              refine Any.takeE 10 rfl rfl rfl rfl (by kernel_rfl) (fun _ _ _ _ _ h => h) ((Ex.pickF rfl rfl).s) ?_
              refine Any.done (by kernel_rfl) ?_
              exact Run.sub (by exact subB_spec ⟨rfl, rfl, rfl, trivial⟩) (hj1504 _ _ ⟨l1034, l1489, !(decide (y1531 = p0)), A1034, c1034, A1489, c1489, z1531, hf, rfl, hm1517, hy1492_0, hy1492_1, hz1492, f1532, f1533, (St.forget hst1531 1)⟩)
        · rintro e' w1535 ⟨l1519, l1520, b1521, A1519, c1519, A1520, c1520, z1518, hf, rfl, hz1535, hy1535_0, hy1535_1, hy1535_2, f1519, f1520, hst1535⟩
          unfold go_edits_Read.j3 at hf
          refine Run.cond rfl (fun hc => ?_) (fun hc => ?_)
          · replace hf := ifTb hc hf
            refine Run.seq ?_
            refine Run.region ?_
            refine Ops.ex (Ex.build [.slice none 0 0, .slice none 0 0, vi 0] rfl Try.underlying29 zr29 (pl29 Try.underlying29) (by kernel_rfl)) rfl rfl rfl ?_
            refine Ops.store 2 [.slice none 0 0, .slice none 0 0, vi 0] hst1535 rfl rfl rfl rfl sz29 rfl (by simp [Value.oneCell']) (by simp) (fun w1536 hst1536 => ?_)
            refine Ops.ex (Ex.assign rfl) rfl rfl rfl ?_
            refine Ops.nil ?_
            obtain rfl := Option.some.inj hf
            exact Run.retV [.agg #[.slice none 0 0, .slice none 0 0, vi 0], vb false] rfl ⟨⟨_, rfl, run_loadN _ Try.underlying29 rfl sz29 rfl (hst1536.cells (i := 2) rfl 0 3)⟩, rfl, trivial⟩ ⟨z1518, none, 0, none, 0, rfl, hy1535_0, (Sl.nil _ _), (Sl.nil _ _), (St.forget (St.forget hst1536 2) 1)⟩
          · replace hf := ifFb hc hf
            refine Run.skip ?_
            refine Run.seq ?_
            refine Run.region ?_
            refine Ops.loadAgg _ rfl Try.underlying29 rfl sz29 rfl (hst1535.cells (i := 1) rfl 0 3) rfl ?_
            refine Ops.store 2 [.slice A1519 l1519.length c1519, .slice A1520 l1520.length c1520, vi y7.1] hst1535 rfl rfl rfl rfl sz29 rfl (by simp [Value.oneCell']) (by simp) (fun w1537 hst1537 => ?_)
            refine Ops.ex (Ex.assign rfl) rfl rfl rfl ?_
            refine Ops.nil ?_
            obtain rfl := Option.some.inj hf
            exact Run.retV [.agg #[.slice A1519 l1519.length c1519, .slice A1520 l1520.length c1520, vi y7.1], vb true] rfl ⟨⟨_, rfl, run_loadN _ Try.underlying29 rfl sz29 rfl (hst1537.cells (i := 2) rfl 0 3)⟩, rfl, trivial⟩ ⟨z1518, A1519, c1519, A1520, c1520, rfl, hy1535_0, f1519, f1520, (St.forget (St.forget hst1537 2) 1)⟩
    · replace hf := ifF (dec_F hc) hf
      refine Ops.off rfl rfl ?_
      refine Ops.off rfl rfl ?_
      refine Ops.off rfl rfl ?_
      refine Ops.ex (Ex.pickF rfl rfl) rfl rfl rfl ?_
      refine Ops.nil ?_
      refine Run.condF rfl rfl ?_
      refine Run.exit _ rfl ?_
      refine Run.seq ?_
      refine Run.seq ?_
      have hm1551 := Le.refl z1485
      apply Run.jn (fun e' w' => ∃ (l1553 : List apiRef) (l1554 : List Str) (b1555 : Bool) (A1553 : Option Addr) (c1553 : Nat) (A1554 : Option Addr) (c1554 : Nat) (z1552 : Zp), go_edits_Read.j4 y7 l1553 l1554 b1555 = some r ∧ e' = [(2, .pointer (some ⟨g2, 0, none⟩)), (5, .pointer (some ⟨g11, 0, none⟩)), (72, vb b1555)] ∧ Le z1485 z1552 ∧ Le z0 z1552 ∧ Le z13 z1552 ∧ Le z1318 z1552 ∧ Sl tapiRef z1552 A1553 c1553 l1553 ∧ Sl tS z1552 A1554 c1554 l1554 ∧ Ht w0 (frz z1552 :: (blk g11 [.slice A1553 l1553.length c1553, .slice A1554 l1554.length c1554, vi y7.1] 29) :: (blk g2 [.slice none 0 0, .slice none 0 0, vi 0] 29) :: X) w')
      · intro hj1538
        refine Run.drawH [([], fun w => ∃ ζ Y, Le z1485 ζ ∧ Ht w0 (frz ζ :: (blk g11 [.slice A1034 l1034.length c1034, .slice A1489 l1489.length c1489, vi y7.1] 29) :: (blk g2 [.slice none 0 0, .slice none 0 0, vi 0] 29) :: Y) w), ([1, 5, 6, 8], fun w => ∃ ζ Y, Le z1485 ζ ∧ Ht w0 (frz ζ :: (blk g4 [.slice A1487 l1487.length c1487, vb b1488] 97) :: Y) w), ([5, 6, 8], fun w => ∃ ζ Y, Le z1485 ζ ∧ Ht w0 (frz ζ :: (orow 24 4 (.slice A1034 l1034.length c1034) l1034.length d1034) :: Y) w), ([5, 6, 8], fun w => ∃ ζ Y, Le z1485 ζ ∧ Ht w0 (frz ζ :: (orow 9 1 (.slice A1489 l1489.length c1489) l1489.length d1489) :: Y) w)] (by kernel_rfl) hst1492 (fun w1556 hst1556 => ?_)
        have hS0 := (⟨_, _, (Le.refl _), (St.up (St.up (St.up hst1556 5 rfl) 5 rfl) 2 rfl)⟩ : (fun w => ∃ ζ Y, Le z1485 ζ ∧ Ht w0 (frz ζ :: (blk g11 [.slice A1034 l1034.length c1034, .slice A1489 l1489.length c1489, vi y7.1] 29) :: (blk g2 [.slice none 0 0, .slice none 0 0, vi 0] 29) :: Y) w) _)
        have hS1 := (⟨_, _, (Le.refl _), (St.up (St.up hst1556 2 rfl) 1 rfl)⟩ : (fun w => ∃ ζ Y, Le z1485 ζ ∧ Ht w0 (frz ζ :: (blk g4 [.slice A1487 l1487.length c1487, vb b1488] 97) :: Y) w) _)
        have hS2 := (⟨_, _, (Le.refl _), (St.up (St.up hst1556 3 rfl) 1 rfl)⟩ : (fun w => ∃ ζ Y, Le z1485 ζ ∧ Ht w0 (frz ζ :: (orow 24 4 (.slice A1034 l1034.length c1034) l1034.length d1034) :: Y) w) _)
        have hS3 := (⟨_, _, (Le.refl _), (St.up (St.up hst1556 1 rfl) 1 rfl)⟩ : (fun w => ∃ ζ Y, Le z1485 ζ ∧ Ht w0 (frz ζ :: (orow 9 1 (.slice A1489 l1489.length c1489) l1489.length d1489) :: Y) w) _)
        refine Any.takeE 0 rfl rfl rfl rfl (by kernel_rfl) (fun _ _ _ _ _ h => h) ((Ex.move rfl).s) ?_
        obtain ⟨y1557, hy1557, hf⟩ := bnd hf
        refine Any.one 1 (by kernel_rfl) rfl rfl (One.of_ops rfl ?_)
        refine Ops.call rfl rfl Try.func43 (by kernel_rfl) (by kernel_rfl) rfl (go_pack_Reader_Done.walk (p0 := (⟨l1487, b1488⟩ : packReader)) (hst := (St.up (St.up (St.up (St.up (St.up (St.up hst1556 5 rfl) 5 rfl) 5 rfl) 4 rfl) 5 rfl) 5 rfl)) (f1 := f1487) (hf := hy1557)) ?_
        rintro _ w1557 ⟨z1557, rfl, hz1557, hst1557⟩
        refine ⟨_, rfl, Ops.stop ?_⟩
        replace f1 := f1.mono hz1557; replace f1487 := f1487.mono hz1557; replace f1489 := f1489.mono hz1557; replace f1034 := f1034.mono hz1557
        replace hy1492_0 := hy1492_0.trans hz1557
        replace hy1492_1 := hy1492_1.trans hz1557
        replace hz1492 := hz1492.trans hz1557
        replace hm1551 := hm1551.trans hz1557
        have hS0 := (⟨_, _, hm1551, (St.up (St.up (St.up hst1557 5 rfl) 5 rfl) 2 rfl)⟩ : (fun w => ∃ ζ Y, Le z1485 ζ ∧ Ht w0 (frz ζ :: (blk g11 [.slice A1034 l1034.length c1034, .slice A1489 l1489.length c1489, vi y7.1] 29) :: (blk g2 [.slice none 0 0, .slice none 0 0, vi 0] 29) :: Y) w) _)
        have hS2 := (⟨_, _, hm1551, (St.up (St.up hst1557 3 rfl) 1 rfl)⟩ : (fun w => ∃ ζ Y, Le z1485 ζ ∧ Ht w0 (frz ζ :: (orow 24 4 (.slice A1034 l1034.length c1034) l1034.length d1034) :: Y) w) _)
        have hS3 := (⟨_, _, hm1551, (St.up (St.up hst1557 2 rfl) 1 rfl)⟩ : (fun w => ∃ ζ Y, Le z1485 ζ ∧ Ht w0 (frz ζ :: (orow 9 1 (.slice A1489 l1489.length c1489) l1489.length d1489) :: Y) w) _)
        refine ⟨⟨.inr (fun _ => hS0), .inl (by decide), .inr (fun _ => hS2), .inr (fun _ => hS3), trivial⟩, ?_⟩
        refine Any.takeE 2 rfl rfl rfl rfl (by kernel_rfl) (fun _ _ _ _ _ h => h) ((Ex.not rfl).s) ?_
        refine Any.takeE 3 rfl rfl rfl rfl (by kernel_rfl) (fun _ _ _ _ _ h => h) ((Ex.move rfl).s) ?_
        refine Any.case 65 rfl (fun hc => ?_) (fun hc => ?_)
        · replace hf := ifFb (bn_T hc) hf
          refine Any.pass 4 rfl rfl rfl rfl (by kernel_rfl) (fun _ _ _ _ _ h => h) ?_
          refine Any.pass 5 rfl rfl rfl rfl (by kernel_rfl) (fun _ _ _ _ _ h => h) ?_
          refine Any.pass 6 rfl rfl rfl rfl (by kernel_rfl) (fun _ _ _ _ _ h => h) ?_
          refine Any.pass 7 rfl rfl rfl rfl (by kernel_rfl) (fun _ _ _ _ _ h => h) ?_
          refine Any.pass 8 rfl rfl rfl rfl (by kernel_rfl) (fun _ _ _ _ _ h => h) ?_
          refine Any.pass 9 rfl rfl rfl rfl (by kernel_rfl) (fun _ _ _ _ _ h => h) ?_
          refine Any.takeE 10 rfl rfl rfl rfl (by kernel_rfl) (fun _ _ _ _ _ h => h) ((Ex.pickT rfl rfl).s) ?_
          refine Any.done (by kernel_rfl) ?_
          obtain ⟨z1559, hz1559, f1559, hst1559⟩ := St.freeze (τ := tapiRef) (xs := l1034) (St.up (St.up (St.up (St.up (St.up (St.up hst1557 5 rfl) 5 rfl) 4 rfl) 4 rfl) 5 rfl) 5 rfl) f1034 rfl
          replace f1 := f1.mono hz1559; replace f1487 := f1487.mono hz1559; replace f1489 := f1489.mono hz1559
          replace hy1492_0 := hy1492_0.trans hz1559
          replace hy1492_1 := hy1492_1.trans hz1559
          replace hz1492 := hz1492.trans hz1559
          replace hm1551 := hm1551.trans hz1559
          obtain ⟨z1560, hz1560, f1560, hst1560⟩ := St.freeze (τ := tS) (xs := l1489) (St.up (St.up (St.up (St.up (St.up hst1559 4 rfl) 4 rfl) 3 rfl) 4 rfl) 4 rfl) f1489 rfl
          replace f1 := f1.mono hz1560; replace f1487 := f1487.mono hz1560; replace f1559 := f1559.mono hz1560
          replace hy1492_0 := hy1492_0.trans hz1560
          replace hy1492_1 := hy1492_1.trans hz1560
          replace hz1492 := hz1492.trans hz1560
          replace hm1551 := hm1551.trans hz1560
          exact Run.sub (by exact subB_spec ⟨rfl, rfl, rfl, trivial⟩) (hj1538 _ _ ⟨l1034, l1489, true, A1034, c1034, A1489, c1489, z1560, hf, rfl, hm1551, hy1492_0, hy1492_1, hz1492, f1559, f1560, (St.forget hst1560 1)⟩)
        · replace hf := ifTb (bn_F hc) hf
          refine Any.take 0 4 rfl rfl rfl rfl rfl (by kernel_rfl) (fun _ _ _ _ _ h => h) (ExS.g (ExS.loadAgg [.slice A1034 l1034.length c1034, .slice A1489 l1489.length c1489, vi y7.1] rfl Try.underlying29 rfl sz29 rfl (fun w hS => by obtain ⟨_, _, _, hs⟩ := hS; exact hs.cells (i := 1) rfl 0 3))) hS0 ?_
          refine Any.takeE 7 rfl rfl rfl rfl (by kernel_rfl) (fun _ _ _ _ _ h => h) (ExS.g ((Ex.move rfl).s)) ?_
          refine Any.all [5, 8] (by kernel_rfl) rfl (fun i hi => ?_)
          simp only [List.mem_cons, List.not_mem_nil, or_false] at hi
          rcases hi with rfl | rfl
          · skip
            obtain ⟨z1562, hz1562, f1562, hst1562⟩ := St.freeze (τ := tapiRef) (xs := l1034) (St.up (St.up (St.up (St.up (St.up (St.up hst1557 5 rfl) 5 rfl) 4 rfl) 4 rfl) 5 rfl) 5 rfl) f1034 rfl
            replace f1 := f1.mono hz1562; replace f1487 := f1487.mono hz1562; replace f1489 := f1489.mono hz1562
            replace hy1492_0 := hy1492_0.trans hz1562
            replace hy1492_1 := hy1492_1.trans hz1562
            replace hz1492 := hz1492.trans hz1562
            replace hm1551 := hm1551.trans hz1562
            obtain ⟨z1563, hz1563, f1563, hst1563⟩ := St.freeze (τ := tS) (xs := l1489) (St.up (St.up (St.up (St.up (St.up hst1562 4 rfl) 4 rfl) 3 rfl) 4 rfl) 4 rfl) f1489 rfl
            replace f1 := f1.mono hz1563; replace f1562 := f1562.mono hz1563; replace f1487 := f1487.mono hz1563
            replace hy1492_0 := hy1492_0.trans hz1563
            replace hy1492_1 := hy1492_1.trans hz1563
            replace hz1492 := hz1492.trans hz1563
            replace hm1551 := hm1551.trans hz1563
            obtain ⟨y1561, hy1561, hf⟩ := bnd hf
            refine ⟨_, rfl, rfl, One.g <| One.of_ops rfl ?_⟩
            refine Ops.call rfl rfl Try.func18 (by kernel_rfl) (by kernel_rfl) rfl (go_edits_Bytes.walk (p0 := (⟨l1034, l1489, y7.1⟩ : editsEdit)) (hst := hst1563) (f1 := f1562) (f2 := f1563) (hf := hy1561)) ?_
            rintro _ w1561 ⟨z1561, A1564, c1564, rfl, hz1561, f1564, hst1561⟩
            refine ⟨_, rfl, Ops.stop ?_⟩
            replace f1 := f1.mono hz1561; replace f1562 := f1562.mono hz1561; replace f1563 := f1563.mono hz1561; replace f1487 := f1487.mono hz1561
            replace hy1492_0 := hy1492_0.trans hz1561
            replace hy1492_1 := hy1492_1.trans hz1561
            replace hz1492 := hz1492.trans hz1561
            replace hm1551 := hm1551.trans hz1561
            have hS0 := (⟨_, _, hm1551, (St.up (St.up (St.up hst1561 3 rfl) 3 rfl) 2 rfl)⟩ : (fun w => ∃ ζ Y, Le z1485 ζ ∧ Ht w0 (frz ζ :: (blk g11 [.slice A1034 l1034.length c1034, .slice A1489 l1489.length c1489, vi y7.1] 29) :: (blk g2 [.slice none 0 0, .slice none 0 0, vi 0] 29) :: Y) w) _)
            refine ⟨⟨.inr (fun _ => hS0), .inl (by decide), .inl (by decide), .inl (by decide), trivial⟩, ?_⟩
            refine Any.all [6, 8] (by kernel_rfl) rfl (fun i hi => ?_)
            simp only [List.mem_cons, List.not_mem_nil, or_false] at hi
            rcases hi with rfl | rfl
            · skip
              refine ⟨_, rfl, rfl, One.g <| One.of_ops rfl ?_⟩
              refine Ops.str8 (f1564.at_ hst1561) rfl Try.underlying30 Try.underlying5 Try.underlying9 rfl (Ops.stop ?_)
              have hS0 := (⟨_, _, hm1551, (St.up (St.up (St.up hst1561 3 rfl) 3 rfl) 2 rfl)⟩ : (fun w => ∃ ζ Y, Le z1485 ζ ∧ Ht w0 (frz ζ :: (blk g11 [.slice A1034 l1034.length c1034, .slice A1489 l1489.length c1489, vi y7.1] 29) :: (blk g2 [.slice none 0 0, .slice none 0 0, vi 0] 29) :: Y) w) _)
              refine ⟨⟨.inr (fun _ => hS0), .inl (by decide), .inl (by decide), .inl (by decide), trivial⟩, ?_⟩
              refine Any.one 8 (by kernel_rfl) rfl rfl (One.g <| One.of_ops rfl ?_)
              refine Ops.str8 (f1.at_ hst1561) rfl Try.underlying30 Try.underlying5 Try.underlying9 rfl (Ops.stop ?_)
              have hS0 := (⟨_, _, hm1551, (St.up (St.up (St.up hst1561 3 rfl) 3 rfl) 2 rfl)⟩ : (fun w => ∃ ζ Y, Le z1485 ζ ∧ Ht w0 (frz ζ :: (blk g11 [.slice A1034 l1034.length c1034, .slice A1489 l1489.length c1489, vi y7.1] 29) :: (blk g2 [.slice none 0 0, .slice none 0 0, vi 0] 29) :: Y) w) _)
              refine ⟨⟨.inr (fun _ => hS0), .inl (by decide), .inl (by decide), .inl (by decide), trivial⟩, ?_⟩
              refine Any.takeE 9 rfl rfl rfl rfl (by kernel_rfl) (fun _ _ _ _ _ h => h) (ExS.g ((Ex.neqT rfl rfl).s)) ?_
              refine Any.takeE 10 rfl rfl rfl rfl (by kernel_rfl) (fun _ _ _ _ _ h => h) ((Ex.pickF rfl rfl).s) ?_
              refine Any.done (by kernel_rfl) ?_
              exact Run.sub (by exact subB_spec ⟨rfl, rfl, rfl, trivial⟩) (hj1538 _ _ ⟨l1034, l1489, !(decide (y1561 = p0)), A1034, c1034, A1489, c1489, z1561, hf, rfl, hm1551, hy1492_0, hy1492_1, hz1492, f1562, f1563, (St.forget hst1561 1)⟩)
            · skip
              refine ⟨_, rfl, rfl, One.g <| One.of_ops rfl ?_⟩
              refine Ops.str8 (f1.at_ hst1561) rfl Try.underlying30 Try.underlying5 Try.underlying9 rfl (Ops.stop ?_)
              have hS0 := (⟨_, _, hm1551, (St.up (St.up (St.up hst1561 3 rfl) 3 rfl) 2 rfl)⟩ : (fun w => ∃ ζ Y, Le z1485 ζ ∧ Ht w0 (frz ζ :: (blk g11 [.slice A1034 l1034.length c1034, .slice A1489 l1489.length c1489, vi y7.1] 29) :: (blk g2 [.slice none 0 0, .slice none 0 0, vi 0] 29) :: Y) w) _)
              refine ⟨⟨.inr (fun _ => hS0), .inl (by decide), .inl (by decide), .inl (by decide), trivial⟩, ?_⟩
              refine Any.one 6 (by kernel_rfl) rfl rfl (One.g <| One.of_ops rfl ?_)
              refine Ops.str8 (f1564.at_ hst1561) rfl Try.underlying30 Try.underlying5 Try.underlying9 rfl (Ops.stop ?_)
              have hS0 := (⟨_, _, hm1551, (St.up (St.up (St.up hst1561 3 rfl) 3 rfl) 2 rfl)⟩ : (fun w => ∃ ζ Y, Le z1485 ζ ∧ Ht w0 (frz ζ :: (blk g11 [.slice A1034 l1034.length c1034, .slice A1489 l1489.length c1489, vi y7.1] 29) :: (blk g2 [.slice none 0 0, .slice none 0 0, vi 0] 29) :: Y) w) _)
              refine ⟨⟨.inr (fun _ => hS0), .inl (by decide), .inl (by decide), .inl (by decide), trivial⟩, ?_⟩
              refine Any.takeE 9 rfl rfl rfl rfl (by kernel_rfl) (fun _ _ _ _ _ h => h) (ExS.g ((Ex.neqT rfl rfl).s)) ?_
              refine Any.takeE 10 rfl rfl rfl rfl (by kernel_rfl) (fun _ _ _ _ _ h => h) ((Ex.pickF rfl rfl).s) ?_
              refine Any.done (by kernel_rfl) ?_
              exact Run.sub (by exact subB_spec ⟨rfl, rfl, rfl, trivial⟩) (hj1538 _ _ ⟨l1034, l1489, !(decide (y1561 = p0)), A1034, c1034, A1489, c1489, z1561, hf, rfl, hm1551, hy1492_0, hy1492_1, hz1492, f1562, f1563, (St.forget hst1561 1)⟩)
          · skip
            refine ⟨_, rfl, rfl, One.g <| One.of_ops rfl ?_⟩
            refine Ops.str8 (f1.at_ hst1557) rfl Try.underlying30 Try.underlying5 Try.underlying9 rfl (Ops.stop ?_)
            have hS0 := (⟨_, _, hm1551, (St.up (St.up (St.up hst1557 5 rfl) 5 rfl) 2 rfl)⟩ : (fun w => ∃ ζ Y, Le z1485 ζ ∧ Ht w0 (frz ζ :: (blk g11 [.slice A1034 l1034.length c1034, .slice A1489 l1489.length c1489, vi y7.1] 29) :: (blk g2 [.slice none 0 0, .slice none 0 0, vi 0] 29) :: Y) w) _)
            refine ⟨⟨.inr (fun _ => hS0), .inl (by decide), .inl (by decide), .inl (by decide), trivial⟩, ?_⟩
            obtain ⟨z1566, hz1566, f1566, hst1566⟩ := St.freeze (τ := tapiRef) (xs := l1034) (St.up (St.up (St.up (St.up (St.up (St.up hst1557 5 rfl) 5 rfl) 4 rfl) 4 rfl) 5 rfl) 5 rfl) f1034 rfl
            replace f1 := f1.mono hz1566; replace f1487 := f1487.mono hz1566; replace f1489 := f1489.mono hz1566
            replace hy1492_0 := hy1492_0.trans hz1566
            replace hy1492_1 := hy1492_1.trans hz1566
            replace hz1492 := hz1492.trans hz1566
            replace hm1551 := hm1551.trans hz1566
            obtain ⟨z1567, hz1567, f1567, hst1567⟩ := St.freeze (τ := tS) (xs := l1489) (St.up (St.up (St.up (St.up (St.up hst1566 4 rfl) 4 rfl) 3 rfl) 4 rfl) 4 rfl) f1489 rfl
            replace f1 := f1.mono hz1567; replace f1566 := f1566.mono hz1567; replace f1487 := f1487.mono hz1567
            replace hy1492_0 := hy1492_0.trans hz1567
            replace hy1492_1 := hy1492_1.trans hz1567
            replace hz1492 := hz1492.trans hz1567
            replace hm1551 := hm1551.trans hz1567
            obtain ⟨y1565, hy1565, hf⟩ := bnd hf
            refine Any.one 5 (by kernel_rfl) rfl rfl (One.g <| One.of_ops rfl ?_)
            refine Ops.call rfl rfl Try.func18 (by kernel_rfl) (by kernel_rfl) rfl (go_edits_Bytes.walk (p0 := (⟨l1034, l1489, y7.1⟩ : editsEdit)) (hst := hst1567) (f1 := f1566) (f2 := f1567) (hf := hy1565)) ?_
            rintro _ w1565 ⟨z1565, A1568, c1568, rfl, hz1565, f1568, hst1565⟩
            refine ⟨_, rfl, Ops.stop ?_⟩
            replace f1 := f1.mono hz1565; replace f1566 := f1566.mono hz1565; replace f1567 := f1567.mono hz1565; replace f1487 := f1487.mono hz1565
            replace hy1492_0 := hy1492_0.trans hz1565
            replace hy1492_1 := hy1492_1.trans hz1565
            replace hz1492 := hz1492.trans hz1565
            replace hm1551 := hm1551.trans hz1565
            have hS0 := (⟨_, _, hm1551, (St.up (St.up (St.up hst1565 3 rfl) 3 rfl) 2 rfl)⟩ : (fun w => ∃ ζ Y, Le z1485 ζ ∧ Ht w0 (frz ζ :: (blk g11 [.slice A1034 l1034.length c1034, .slice A1489 l1489.length c1489, vi y7.1] 29) :: (blk g2 [.slice none 0 0, .slice none 0 0, vi 0] 29) :: Y) w) _)
            refine ⟨⟨.inr (fun _ => hS0), .inl (by decide), .inl (by decide), .inl (by decide), trivial⟩, ?_⟩
            refine Any.one 6 (by kernel_rfl) rfl rfl (One.g <| One.of_ops rfl ?_)
            refine Ops.str8 (f1568.at_ hst1565) rfl Try.underlying30 Try.underlying5 Try.underlying9 rfl (Ops.stop ?_)
            have hS0 := (⟨_, _, hm1551, (St.up (St.up (St.up hst1565 3 rfl) 3 rfl) 2 rfl)⟩ : (fun w => ∃ ζ Y, Le z1485 ζ ∧ Ht w0 (frz ζ :: (blk g11 [.slice A1034 l1034.length c1034, .slice A1489 l1489.length c1489, vi y7.1] 29) :: (blk g2 [.slice none 0 0, .slice none 0 0, vi 0] 29) :: Y) w) _)
            refine ⟨⟨.inr (fun _ => hS0), .inl (by decide), .inl (by decide), .inl (by decide), trivial⟩, ?_⟩
            refine Any.takeE 9 rfl rfl rfl rfl (by kernel_rfl) (fun _ _ _ _ _ h => h) (ExS.g ((Ex.neqT rfl rfl).s)) ?_
            refine Any.takeE 10 rfl rfl rfl rfl (by kernel_rfl) (fun _ _ _ _ _ h => h) ((Ex.pickF rfl rfl).s) ?_
            refine Any.done (by kernel_rfl) ?_
            exact Run.sub (by exact subB_spec ⟨rfl, rfl, rfl, trivial⟩) (hj1538 _ _ ⟨l1034, l1489, !(decide (y1565 = p0)), A1034, c1034, A1489, c1489, z1565, hf, rfl, hm1551, hy1492_0, hy1492_1, hz1492, f1566, f1567, (St.forget hst1565 1)⟩)
      · rintro e' w1569 ⟨l1553, l1554, b1555, A1553, c1553, A1554, c1554, z1552, hf, rfl, hz1569, hy1569_0, hy1569_1, hy1569_2, f1553, f1554, hst1569⟩
        unfold go_edits_Read.j4 at hf
        refine Run.cond rfl (fun hc => ?_) (fun hc => ?_)
        · replace hf := ifTb hc hf
          refine Run.seq ?_
          refine Run.region ?_
          refine Ops.ex (Ex.build [.slice none 0 0, .slice none 0 0, vi 0] rfl Try.underlying29 zr29 (pl29 Try.underlying29) (by kernel_rfl)) rfl rfl rfl ?_
          refine Ops.store 2 [.slice none 0 0, .slice none 0 0, vi 0] hst1569 rfl rfl rfl rfl sz29 rfl (by simp [Value.oneCell']) (by simp) (fun w1570 hst1570 => ?_)
          refine Ops.ex (Ex.assign rfl) rfl rfl rfl ?_
          refine Ops.nil ?_
          obtain rfl := Option.some.inj hf
          exact Run.retV [.agg #[.slice none 0 0, .slice none 0 0, vi 0], vb false] rfl ⟨⟨_, rfl, run_loadN _ Try.underlying29 rfl sz29 rfl (hst1570.cells (i := 2) rfl 0 3)⟩, rfl, trivial⟩ ⟨z1552, none, 0, none, 0, rfl, hy1569_0, (Sl.nil _ _), (Sl.nil _ _), (St.forget (St.forget hst1570 2) 1)⟩
        · replace hf := ifFb hc hf
          refine Run.skip ?_
          refine Run.seq ?_
          refine Run.region ?_
          refine Ops.loadAgg _ rfl Try.underlying29 rfl sz29 rfl (hst1569.cells (i := 1) rfl 0 3) rfl ?_
          refine Ops.store 2 [.slice A1553 l1553.length c1553, .slice A1554 l1554.length c1554, vi y7.1] hst1569 rfl rfl rfl rfl sz29 rfl (by simp [Value.oneCell']) (by simp) (fun w1571 hst1571 => ?_)
          refine Ops.ex (Ex.assign rfl) rfl rfl rfl ?_
          refine Ops.nil ?_
          obtain rfl := Option.some.inj hf
          exact Run.retV [.agg #[.slice A1553 l1553.length c1553, .slice A1554 l1554.length c1554, vi y7.1], vb true] rfl ⟨⟨_, rfl, run_loadN _ Try.underlying29 rfl sz29 rfl (hst1571.cells (i := 2) rfl 0 3)⟩, rfl, trivial⟩ ⟨z1552, A1553, c1553, A1554, c1554, rfl, hy1569_0, f1553, f1554, (St.forget (St.forget hst1571 2) 1)⟩
def go_law10_bytes.b2 (i142 : Nat) (a142 : Str) : (List UInt8) → (List UInt8 → Option Str) → Option Str :=
  fun l164 nxb142 => (go_pack_Writer_Text (⟨l164⟩ : packWriter) a142).bind fun y168 => nxb142 y168.b_
def go_law10_bytes.b1 (i13 : Nat) (a13 : apiRef) : (List UInt8) → (List UInt8 → Option Str) → Option Str :=
  fun l121 nxb13 => (go_pack_Writer_Text (⟨l121⟩ : packWriter) a13.Name).bind fun y132 => (go_pack_Writer_Byte y132 (toU8 a13.Kind)).bind fun y134 => (go_pack_Writer_Num y134 a13.From).bind fun y136 => (go_pack_Writer_Num y136 a13.To).bind fun y138 => nxb13 y138.b_
def go_law10_bytes (p0 : editsEdit) : Option Str :=
  (go_pack_Writer_Num (⟨[]⟩ : packWriter) p0.Floor).bind fun y7 => (go_pack_Writer_Num y7 (p0.Add.length : Int)).bind fun y11 => forL (go_law10_bytes.b1) (fun l121 => (go_pack_Writer_Num (⟨l121⟩ : packWriter) (p0.Drop.length : Int)).bind fun y140 => forL (go_law10_bytes.b2) (fun l164 => (go_pack_Writer_Bytes (⟨l164⟩ : packWriter)).bind fun y170 => some y170) 0 p0.Drop y140.b_) 0 p0.Add y11.b_
set_option maxRecDepth 100000 in
set_option maxHeartbeats 4000000 in
theorem go_law10_bytes.walk {w0 w : World} {X : List Res} {z0 : Zp} {p0 : editsEdit} {A1 : Option Addr} {c1 : Nat} {A2 : Option Addr} {c2 : Nat} {r : Str} (hst : Ht w0 (frz z0 :: X) w) (f1 : Sl tapiRef z0 A1 c1 p0.Add) (f2 : Sl tS z0 A2 c2 p0.Drop) (hf : go_law10_bytes p0 = some r) :
    Calls Try.prog 20 #[.agg #[.slice A1 p0.Add.length c1, .slice A2 p0.Drop.length c2, vi p0.Floor]] w fun e w' => ∃ (z' : Zp), e = .returned (vs r) ∧ Le z0 z' ∧ Ht w0 (frz z' :: X) w' := by
  refine calls_np Try.func20 rfl rfl ?_
  have hle0 := Le.refl z0
  unfold go_law10_bytes at hf
  refine Run.seq ?_
  refine Run.region ?_
  refine Ops.boxF [.slice A1 p0.Add.length c1, .slice A2 p0.Drop.length c2, vi p0.Floor] hst rfl rfl rfl (fun g4 w4 hst4 => ?_)
  refine Ops.ex (Ex.assign rfl) rfl rfl rfl ?_
  refine Ops.nil ?_
  refine Run.seq ?_
  refine Run.region ?_
  refine Ops.ex (Ex.build [.slice none 0 0] rfl Try.underlying76 zr76 (pl76 Try.underlying76) (by kernel_rfl)) rfl rfl rfl ?_
  refine Ops.boxF [.slice none 0 0] hst4 rfl rfl rfl (fun g5 w5 hst5 => ?_)
  refine Ops.ex (Ex.assign rfl) rfl rfl rfl ?_
  refine Ops.nil ?_
  refine Run.seq ?_
  refine Run.drawH [([], fun w => ∃ ζ Y, Le z0 ζ ∧ Ht w0 (frz ζ :: (blk g4 [.slice A1 p0.Add.length c1, .slice A2 p0.Drop.length c2, vi p0.Floor] 29) :: Y) w), ([3, 7], fun w => ∃ ζ Y, Le z0 ζ ∧ Ht w0 (frz ζ :: (blk g5 [.slice none 0 0] 76) :: Y) w)] (by kernel_rfl) hst5 (fun w6 hst6 => ?_)
  have hS0 := (⟨_, _, (Le.refl _), (St.up (St.up hst6 2 rfl) 1 rfl)⟩ : (fun w => ∃ ζ Y, Le z0 ζ ∧ Ht w0 (frz ζ :: (blk g4 [.slice A1 p0.Add.length c1, .slice A2 p0.Drop.length c2, vi p0.Floor] 29) :: Y) w) _)
  have hS1 := (⟨_, _, (Le.refl _), (St.up (St.up hst6 1 rfl) 1 rfl)⟩ : (fun w => ∃ ζ Y, Le z0 ζ ∧ Ht w0 (frz ζ :: (blk g5 [.slice none 0 0] 76) :: Y) w) _)
  refine Any.takeE 0 rfl rfl rfl rfl (by kernel_rfl) (fun _ _ _ _ _ h => h) ((Ex.move rfl).s) ?_
  refine Any.takeE 1 rfl rfl rfl rfl (by kernel_rfl) (fun _ _ _ _ _ h => h) ((Ex.fieldAddr rfl Try.underlying29 rfl sz3).s) ?_
  refine Any.take 0 2 rfl rfl rfl rfl rfl (by kernel_rfl) (fun _ _ _ _ _ h => h) (ExS.load rfl Try.underlying3 rfl (fun w hS => by obtain ⟨_, _, _, hs⟩ := hS; exact hs.cell (i := 1) rfl rfl)) hS0 ?_
  refine Any.takeE 4 rfl rfl rfl rfl (by kernel_rfl) (fun _ _ _ _ _ h => h) ((Ex.fieldAddr rfl Try.underlying29 rfl sz26).s) ?_
  refine Any.take 0 5 rfl rfl rfl rfl rfl (by kernel_rfl) (fun _ _ _ _ _ h => h) (ExS.load rfl Try.underlying26 rfl (fun w hS => by obtain ⟨_, _, _, hs⟩ := hS; exact hs.cell (i := 1) rfl rfl)) hS0 ?_
  refine Any.takeE 6 rfl rfl rfl rfl (by kernel_rfl) (fun _ _ _ _ _ h => h) ((Ex.len' rfl rfl rfl Try.underlying26).s) ?_
  have hst8 := St.row0 hst6 5 1
  obtain ⟨y7, hy7, hf⟩ := bnd hf
  refine Any.one 3 (by kernel_rfl) rfl rfl (One.of_ops rfl ?_)
  refine Ops.call rfl rfl Try.func34 (by kernel_rfl) (by kernel_rfl) rfl (go_pack_Writer_Num.walk (p0 := (⟨[]⟩ : packWriter)) (p1 := p0.Floor) (hst := (St.up (St.up (St.up (St.up hst8 3 rfl) 2 rfl) 3 rfl) 3 rfl)) (f1 := (Cs.nil tU8 z0)) (hf := hy7)) ?_
  rintro _ w7 ⟨z7, A10, c10, d10, rfl, hz7, f10, hst7⟩
  refine ⟨_, rfl, Ops.stop ?_⟩
  replace f1 := f1.mono hz7; replace f2 := f2.mono hz7
  replace hle0 := hle0.trans hz7
  have hS0 := (⟨_, _, hle0, (St.up (St.up hst7 3 rfl) 1 rfl)⟩ : (fun w => ∃ ζ Y, Le z0 ζ ∧ Ht w0 (frz ζ :: (blk g4 [.slice A1 p0.Add.length c1, .slice A2 p0.Drop.length c2, vi p0.Floor] 29) :: Y) w) _)
  refine ⟨⟨.inr (fun _ => hS0), .inl (by decide), trivial⟩, ?_⟩
  obtain ⟨y11, hy11, hf⟩ := bnd hf
  refine Any.one 7 (by kernel_rfl) rfl rfl (One.of_ops rfl ?_)
  refine Ops.call rfl rfl Try.func34 (by kernel_rfl) (by kernel_rfl) rfl (go_pack_Writer_Num.walk (p0 := y7) (p1 := (p0.Add.length : Int)) (hst := hst7) (f1 := f10) (hf := hy11)) ?_
  rintro _ w11 ⟨z11, A12, c12, d12, rfl, hz11, f12, hst11⟩
  refine ⟨_, rfl, Ops.stop ?_⟩
  replace f1 := f1.mono hz11; replace f2 := f2.mono hz11
  replace hle0 := hle0.trans hz11
  have hS0 := (⟨_, _, hle0, (St.up (St.up hst11 3 rfl) 1 rfl)⟩ : (fun w => ∃ ζ Y, Le z0 ζ ∧ Ht w0 (frz ζ :: (blk g4 [.slice A1 p0.Add.length c1, .slice A2 p0.Drop.length c2, vi p0.Floor] 29) :: Y) w) _)
  refine ⟨⟨.inr (fun _ => hS0), .inl (by decide), trivial⟩, ?_⟩
  refine Any.done (by kernel_rfl) ?_
  refine Run.seq ?_
  refine Run.seq ?_
  refine Run.region ?_
  refine Ops.ex (Ex.fieldAddr rfl Try.underlying29 rfl sz26) rfl rfl rfl ?_
  refine Ops.load rfl Try.underlying26 rfl (hst11.cell (i := 3) rfl rfl) rfl ?_
  refine Ops.ex (Ex.len' rfl rfl rfl Try.underlying26) rfl rfl rfl ?_
  refine Ops.ex (Ex.move rfl) rfl rfl rfl ?_
  refine Ops.nil ?_
  refine Run.block ?_
  have hc13 := f1.cap
  have hm14 := Le.refl z11
  refine Run.sub (e' := [(1, .pointer (some ⟨g4, 0, none⟩)), (3, .pointer (some ⟨g5, 0, none⟩)), (19, .slice A1 p0.Add.length c1), (20, vi (p0.Add.length : Int)), (21, vi ((0 : Nat) : Int))]) (subB_spec ⟨rfl, rfl, rfl, rfl, rfl, trivial⟩) ?_
  refine Run.loop (fun mb13 => (fun e' w' => ∃ (i13 : Nat) (l121 : List UInt8) (A121 : Option Addr) (c121 : Nat) (d121 : List Value) (z120 : Zp), mb13 = p0.Add.length - i13 ∧ i13 ≤ p0.Add.length ∧ forL (go_law10_bytes.b1) (fun l121 => (go_pack_Writer_Num (⟨l121⟩ : packWriter) (p0.Drop.length : Int)).bind fun y140 => forL (go_law10_bytes.b2) (fun l164 => (go_pack_Writer_Bytes (⟨l164⟩ : packWriter)).bind fun y170 => some y170) 0 p0.Drop y140.b_) i13 (p0.Add.drop i13) l121 = some r ∧ e' = [(1, .pointer (some ⟨g4, 0, none⟩)), (3, .pointer (some ⟨g5, 0, none⟩)), (19, .slice A1 p0.Add.length c1), (20, vi (p0.Add.length : Int)), (21, vi (i13 : Int))] ∧ Le z11 z120 ∧ Le z0 z120 ∧ Cs tU8 z120 d121 l121 ∧ Ht w0 (frz z120 :: (orow 5 1 (.slice A121 l121.length c121) l121.length d121) :: (blk g5 [.slice A121 l121.length c121] 76) :: (blk g4 [.slice A1 p0.Add.length c1, .slice A2 p0.Drop.length c2, vi p0.Floor] 29) :: X) w')) p0.Add.length ⟨0, y11.b_, A12, c12, d12, z11, rfl, Nat.zero_le _, hf, rfl, hm14, hle0, f12, (St.up (St.up (St.up (St.up hst11 3 rfl) 2 rfl) 3 rfl) 3 rfl)⟩ ?_
  rintro _ e' w122 ⟨i13, l121, A121, c121, d121, z120, rfl, hi13, hf, rfl, hz122, hy122_0, f121, hst122⟩
  replace f1 := f1.mono hz122; replace f2 := f2.mono hz122
  refine Run.seq ?_
  refine Run.region ?_
  refine Ops.ex (Ex.lss rfl rfl) rfl rfl rfl ?_
  refine Ops.nil ?_
  refine Run.seq ?_
  refine Run.cond rfl (fun hc => ?_) (fun hc => ?_)
  · have hl13 := lt_of_dec hc
    obtain ⟨a13, nxb13, ha13, hnxb13, hf⟩ := forL_in hf hl13
    unfold go_law10_bytes.b1 at hf
    try dsimp only at hf
    refine Run.skip ?_
    refine Run.seq ?_
    refine Run.block ?_
    refine Run.seq ?_
    refine Run.region ?_
    obtain ⟨g127, p127, o127, cs127, hA127, ho127, hr127, f127⟩ := SlH.elem f1.toH (atI_nat ha13)
    obtain rfl := hr127
    refine Ops.ex (Ex.ixA hA127 ho127 (atI_nat ha13) rfl rfl rfl Try.underlying26 sz24) rfl rfl rfl ?_
    refine Ops.loadAgg [vs a13.Name, vi a13.Kind, vi a13.From, vi a13.To] rfl Try.underlying24 rfl sz24 rfl (cells_of_zc rfl (f127.mono hst122.le)) rfl ?_
    refine Ops.allocF [vs [], vi 0, vi 0, vi 0] hst122 zr24 rfl rfl (fun g128 w128 hst128 => ?_)
    refine Ops.store 1 [vs a13.Name, vi a13.Kind, vi a13.From, vi a13.To] hst128 rfl rfl rfl rfl sz24 rfl (by simp [Value.oneCell']) (by simp) (fun w129 hst129 => ?_)
    refine Ops.nil ?_
    have hm131 := Le.refl z120
    refine Run.drawH [([], fun w => ∃ ζ Y, Le z120 ζ ∧ Ht w0 (frz ζ :: (blk g128 [vs a13.Name, vi a13.Kind, vi a13.From, vi a13.To] 24) :: (blk g4 [.slice A1 p0.Add.length c1, .slice A2 p0.Drop.length c2, vi p0.Floor] 29) :: Y) w), ([3, 7, 10, 13], fun w => ∃ ζ Y, Le z120 ζ ∧ Ht w0 (frz ζ :: (orow 5 1 (.slice A121 l121.length c121) l121.length d121) :: Y) w), ([3, 7, 10, 13], fun w => ∃ ζ Y, Le z120 ζ ∧ Ht w0 (frz ζ :: (blk g5 [.slice A121 l121.length c121] 76) :: Y) w)] (by kernel_rfl) hst129 (fun w130 hst130 => ?_)
    have hS0 := (⟨_, _, (Le.refl _), (St.up (St.up (St.up hst130 4 rfl) 2 rfl) 2 rfl)⟩ : (fun w => ∃ ζ Y, Le z120 ζ ∧ Ht w0 (frz ζ :: (blk g128 [vs a13.Name, vi a13.Kind, vi a13.From, vi a13.To] 24) :: (blk g4 [.slice A1 p0.Add.length c1, .slice A2 p0.Drop.length c2, vi p0.Floor] 29) :: Y) w) _)
    have hS1 := (⟨_, _, (Le.refl _), (St.up (St.up hst130 2 rfl) 1 rfl)⟩ : (fun w => ∃ ζ Y, Le z120 ζ ∧ Ht w0 (frz ζ :: (orow 5 1 (.slice A121 l121.length c121) l121.length d121) :: Y) w) _)
    have hS2 := (⟨_, _, (Le.refl _), (St.up (St.up hst130 3 rfl) 1 rfl)⟩ : (fun w => ∃ ζ Y, Le z120 ζ ∧ Ht w0 (frz ζ :: (blk g5 [.slice A121 l121.length c121] 76) :: Y) w) _)
    refine Any.takeE 0 rfl rfl rfl rfl (by kernel_rfl) (fun _ _ _ _ _ h => h) ((Ex.move rfl).s) ?_
    refine Any.takeE 1 rfl rfl rfl rfl (by kernel_rfl) (fun _ _ _ _ _ h => h) ((Ex.fieldAddr rfl Try.underlying24 rfl sz9).s) ?_
    refine Any.take 0 2 rfl rfl rfl rfl rfl (by kernel_rfl) (fun _ _ _ _ _ h => h) (ExS.load rfl Try.underlying9 rfl (fun w hS => by obtain ⟨_, _, _, hs⟩ := hS; exact hs.cell (i := 1) rfl rfl)) hS0 ?_
    refine Any.takeE 4 rfl rfl rfl rfl (by kernel_rfl) (fun _ _ _ _ _ h => h) ((Ex.fieldAddr rfl Try.underlying24 rfl sz22).s) ?_
    refine Any.take 0 5 rfl rfl rfl rfl rfl (by kernel_rfl) (fun _ _ _ _ _ h => h) (ExS.load rfl Try.underlying22 rfl (fun w hS => by obtain ⟨_, _, _, hs⟩ := hS; exact hs.cell (i := 1) rfl rfl)) hS0 ?_
    refine Any.takeE 6 rfl rfl rfl rfl (by kernel_rfl) (fun _ _ _ _ _ h => h) ((Ex.cto8 rfl Try.underlying22 Try.underlying5).s) ?_
    refine Any.takeE 8 rfl rfl rfl rfl (by kernel_rfl) (fun _ _ _ _ _ h => h) ((Ex.fieldAddr rfl Try.underlying24 rfl sz3).s) ?_
    refine Any.take 0 9 rfl rfl rfl rfl rfl (by kernel_rfl) (fun _ _ _ _ _ h => h) (ExS.load rfl Try.underlying3 rfl (fun w hS => by obtain ⟨_, _, _, hs⟩ := hS; exact hs.cell (i := 1) rfl rfl)) hS0 ?_
    refine Any.takeE 11 rfl rfl rfl rfl (by kernel_rfl) (fun _ _ _ _ _ h => h) ((Ex.fieldAddr rfl Try.underlying24 rfl sz3).s) ?_
    refine Any.take 0 12 rfl rfl rfl rfl rfl (by kernel_rfl) (fun _ _ _ _ _ h => h) (ExS.load rfl Try.underlying3 rfl (fun w hS => by obtain ⟨_, _, _, hs⟩ := hS; exact hs.cell (i := 1) rfl rfl)) hS0 ?_
    obtain ⟨y132, hy132, hf⟩ := bnd hf
    refine Any.one 3 (by kernel_rfl) rfl rfl (One.of_ops rfl ?_)
    refine Ops.call rfl rfl Try.func35 (by kernel_rfl) (by kernel_rfl) rfl (go_pack_Writer_Text.walk (p0 := (⟨l121⟩ : packWriter)) (p1 := a13.Name) (hst := (St.up (St.up (St.up (St.up (St.up hst130 4 rfl) 2 rfl) 3 rfl) 4 rfl) 4 rfl)) (f1 := f121) (hf := hy132)) ?_
    rintro _ w132 ⟨z132, A133, c133, d133, rfl, hz132, f133, hst132⟩
    refine ⟨_, rfl, Ops.stop ?_⟩
    replace f1 := f1.mono hz132; replace f127 := f127.mono hz132; replace f2 := f2.mono hz132
    replace hy122_0 := hy122_0.trans hz132
    replace hz122 := hz122.trans hz132
    replace hm131 := hm131.trans hz132
    have hS0 := (⟨_, _, hm131, (St.up (St.up (St.up hst132 4 rfl) 4 rfl) 2 rfl)⟩ : (fun w => ∃ ζ Y, Le z120 ζ ∧ Ht w0 (frz ζ :: (blk g128 [vs a13.Name, vi a13.Kind, vi a13.From, vi a13.To] 24) :: (blk g4 [.slice A1 p0.Add.length c1, .slice A2 p0.Drop.length c2, vi p0.Floor] 29) :: Y) w) _)
    refine ⟨⟨.inr (fun _ => hS0), .inl (by decide), .inl (by decide), trivial⟩, ?_⟩
    obtain ⟨y134, hy134, hf⟩ := bnd hf
    refine Any.one 7 (by kernel_rfl) rfl rfl (One.of_ops rfl ?_)
    refine Ops.call rfl rfl Try.func36 (by kernel_rfl) (by kernel_rfl) rfl (go_pack_Writer_Byte.walk (p0 := y132) (p1 := toU8 a13.Kind) (hst := hst132) (f1 := f133) (hf := hy134)) ?_
    rintro _ w134 ⟨z134, A135, c135, d135, rfl, hz134, f135, hst134⟩
    refine ⟨_, rfl, Ops.stop ?_⟩
    replace f1 := f1.mono hz134; replace f127 := f127.mono hz134; replace f2 := f2.mono hz134
    replace hy122_0 := hy122_0.trans hz134
    replace hz122 := hz122.trans hz134
    replace hm131 := hm131.trans hz134
    have hS0 := (⟨_, _, hm131, (St.up (St.up (St.up hst134 4 rfl) 4 rfl) 2 rfl)⟩ : (fun w => ∃ ζ Y, Le z120 ζ ∧ Ht w0 (frz ζ :: (blk g128 [vs a13.Name, vi a13.Kind, vi a13.From, vi a13.To] 24) :: (blk g4 [.slice A1 p0.Add.length c1, .slice A2 p0.Drop.length c2, vi p0.Floor] 29) :: Y) w) _)
    refine ⟨⟨.inr (fun _ => hS0), .inl (by decide), .inl (by decide), trivial⟩, ?_⟩
    obtain ⟨y136, hy136, hf⟩ := bnd hf
    refine Any.one 10 (by kernel_rfl) rfl rfl (One.of_ops rfl ?_)
    refine Ops.call rfl rfl Try.func34 (by kernel_rfl) (by kernel_rfl) rfl (go_pack_Writer_Num.walk (p0 := y134) (p1 := a13.From) (hst := hst134) (f1 := f135) (hf := hy136)) ?_
    rintro _ w136 ⟨z136, A137, c137, d137, rfl, hz136, f137, hst136⟩
    refine ⟨_, rfl, Ops.stop ?_⟩
    replace f1 := f1.mono hz136; replace f127 := f127.mono hz136; replace f2 := f2.mono hz136
    replace hy122_0 := hy122_0.trans hz136
    replace hz122 := hz122.trans hz136
    replace hm131 := hm131.trans hz136
    have hS0 := (⟨_, _, hm131, (St.up (St.up (St.up hst136 4 rfl) 4 rfl) 2 rfl)⟩ : (fun w => ∃ ζ Y, Le z120 ζ ∧ Ht w0 (frz ζ :: (blk g128 [vs a13.Name, vi a13.Kind, vi a13.From, vi a13.To] 24) :: (blk g4 [.slice A1 p0.Add.length c1, .slice A2 p0.Drop.length c2, vi p0.Floor] 29) :: Y) w) _)
    refine ⟨⟨.inr (fun _ => hS0), .inl (by decide), .inl (by decide), trivial⟩, ?_⟩
    obtain ⟨y138, hy138, hf⟩ := bnd hf
    refine Any.one 13 (by kernel_rfl) rfl rfl (One.of_ops rfl ?_)
    refine Ops.call rfl rfl Try.func34 (by kernel_rfl) (by kernel_rfl) rfl (go_pack_Writer_Num.walk (p0 := y136) (p1 := a13.To) (hst := hst136) (f1 := f137) (hf := hy138)) ?_
    rintro _ w138 ⟨z138, A139, c139, d139, rfl, hz138, f139, hst138⟩
    refine ⟨_, rfl, Ops.stop ?_⟩
    replace f1 := f1.mono hz138; replace f127 := f127.mono hz138; replace f2 := f2.mono hz138
    replace hy122_0 := hy122_0.trans hz138
    replace hz122 := hz122.trans hz138
    replace hm131 := hm131.trans hz138
    have hS0 := (⟨_, _, hm131, (St.up (St.up (St.up hst138 4 rfl) 4 rfl) 2 rfl)⟩ : (fun w => ∃ ζ Y, Le z120 ζ ∧ Ht w0 (frz ζ :: (blk g128 [vs a13.Name, vi a13.Kind, vi a13.From, vi a13.To] 24) :: (blk g4 [.slice A1 p0.Add.length c1, .slice A2 p0.Drop.length c2, vi p0.Floor] 29) :: Y) w) _)
    refine ⟨⟨.inr (fun _ => hS0), .inl (by decide), .inl (by decide), trivial⟩, ?_⟩
    refine Any.done (by kernel_rfl) ?_
    refine Run.endBlk ?_
    refine Run.region ?_
    refine Ops.ex (Ex.add rfl rfl) rfl rfl rfl ?_
    refine Ops.ex (Ex.move rfl) rfl rfl rfl ?_
    refine Ops.nil ?_
    refine Run.re 21 rfl (congrArg vi (wr_succ' hl13 hc13)) ?_
    exact Run.sub (by exact subB_spec ⟨rfl, rfl, rfl, rfl, rfl, trivial⟩) (Run.stop ⟨p0.Add.length - (i13 + 1), by omega, i13 + 1, y138.b_, A139, c139, d139, z138, rfl, by omega, (hnxb13 _).symm.trans hf, rfl, hz122, hy122_0, f139, (St.up (St.up (St.up (St.up (St.forget hst138 3) 3 rfl) 2 rfl) 3 rfl) 3 rfl)⟩)
  · replace hf := forL_out hf (nlt_of_dec hc)
    try dsimp only at hf
    refine Run.exit _ rfl ?_
    refine Run.seq ?_
    refine Run.region ?_
    refine Ops.ex (Ex.move rfl) rfl rfl rfl ?_
    refine Ops.ex (Ex.fieldAddr rfl Try.underlying29 rfl sz27) rfl rfl rfl ?_
    refine Ops.load rfl Try.underlying27 rfl (hst122.cell (i := 3) rfl rfl) rfl ?_
    refine Ops.ex (Ex.len' rfl rfl rfl Try.underlying27) rfl rfl rfl ?_
    obtain ⟨y140, hy140, hf⟩ := bnd hf
    refine Ops.call rfl rfl Try.func34 (by kernel_rfl) (by kernel_rfl) rfl (go_pack_Writer_Num.walk (p0 := (⟨l121⟩ : packWriter)) (p1 := (p0.Drop.length : Int)) (hst := (St.up (St.up (St.up (St.up hst122 3 rfl) 2 rfl) 3 rfl) 3 rfl)) (f1 := f121) (hf := hy140)) ?_
    rintro _ w140 ⟨z140, A141, c141, d141, rfl, hz140, f141, hst140⟩
    refine ⟨_, rfl, ?_⟩
    replace f1 := f1.mono hz140; replace f2 := f2.mono hz140
    replace hy122_0 := hy122_0.trans hz140
    replace hz122 := hz122.trans hz140
    refine Ops.nil ?_
    refine Run.seq ?_
    refine Run.seq ?_
    refine Run.region ?_
    refine Ops.ex (Ex.fieldAddr rfl Try.underlying29 rfl sz27) rfl rfl rfl ?_
    refine Ops.load rfl Try.underlying27 rfl (hst140.cell (i := 3) rfl rfl) rfl ?_
    refine Ops.ex (Ex.len' rfl rfl rfl Try.underlying27) rfl rfl rfl ?_
    refine Ops.ex (Ex.move rfl) rfl rfl rfl ?_
    refine Ops.nil ?_
    refine Run.block ?_
    have hc142 := f2.cap
    have hm143 := Le.refl z140
    refine Run.sub (e' := [(3, .pointer (some ⟨g5, 0, none⟩)), (46, .slice A2 p0.Drop.length c2), (47, vi (p0.Drop.length : Int)), (48, vi ((0 : Nat) : Int))]) (subB_spec ⟨rfl, rfl, rfl, rfl, trivial⟩) ?_
    refine Run.loop (fun mb142 => (fun e' w' => ∃ (i142 : Nat) (l164 : List UInt8) (A164 : Option Addr) (c164 : Nat) (d164 : List Value) (z163 : Zp), mb142 = p0.Drop.length - i142 ∧ i142 ≤ p0.Drop.length ∧ forL (go_law10_bytes.b2) (fun l164 => (go_pack_Writer_Bytes (⟨l164⟩ : packWriter)).bind fun y170 => some y170) i142 (p0.Drop.drop i142) l164 = some r ∧ e' = [(3, .pointer (some ⟨g5, 0, none⟩)), (46, .slice A2 p0.Drop.length c2), (47, vi (p0.Drop.length : Int)), (48, vi (i142 : Int))] ∧ Le z140 z163 ∧ Le z0 z163 ∧ Le z11 z163 ∧ Cs tU8 z163 d164 l164 ∧ Ht w0 (frz z163 :: (orow 5 1 (.slice A164 l164.length c164) l164.length d164) :: (blk g5 [.slice A164 l164.length c164] 76) :: X) w')) p0.Drop.length ⟨0, y140.b_, A141, c141, d141, z140, rfl, Nat.zero_le _, hf, rfl, hm143, hy122_0, hz122, f141, (St.up (St.up (St.up (St.forget hst140 3) 1 rfl) 2 rfl) 2 rfl)⟩ ?_
    rintro _ e' w165 ⟨i142, l164, A164, c164, d164, z163, rfl, hi142, hf, rfl, hz165, hy165_0, hy165_1, f164, hst165⟩
    replace f2 := f2.mono hz165
    refine Run.seq ?_
    refine Run.region ?_
    refine Ops.ex (Ex.lss rfl rfl) rfl rfl rfl ?_
    refine Ops.nil ?_
    refine Run.seq ?_
    refine Run.cond rfl (fun hc => ?_) (fun hc => ?_)
    · have hl142 := lt_of_dec hc
      obtain ⟨a142, nxb142, ha142, hnxb142, hf⟩ := forL_in hf hl142
      unfold go_law10_bytes.b2 at hf
      try dsimp only at hf
      refine Run.skip ?_
      refine Run.seq ?_
      refine Run.block ?_
      refine Run.seq ?_
      refine Run.region ?_
      obtain ⟨g167, p167, o167, cs167, hA167, ho167, hr167, f167⟩ := SlH.elem f2.toH (atI_nat ha142)
      obtain rfl := hr167
      refine Ops.ex (Ex.ixA hA167 ho167 (atI_nat ha142) rfl rfl rfl Try.underlying27 sz9) rfl rfl rfl ?_
      refine Ops.load rfl Try.underlying9 rfl ((f167.mono hst165.le) 0 _ rfl) rfl ?_
      refine Ops.ex (Ex.assign rfl) rfl rfl rfl ?_
      refine Ops.nil ?_
      refine Run.region ?_
      refine Ops.ex (Ex.move rfl) rfl rfl rfl ?_
      refine Ops.ex (Ex.move rfl) rfl rfl rfl ?_
      obtain ⟨y168, hy168, hf⟩ := bnd hf
      refine Ops.call rfl rfl Try.func35 (by kernel_rfl) (by kernel_rfl) rfl (go_pack_Writer_Text.walk (p0 := (⟨l164⟩ : packWriter)) (p1 := a142) (hst := (St.up (St.up (St.up hst165 1 rfl) 2 rfl) 2 rfl)) (f1 := f164) (hf := hy168)) ?_
      rintro _ w168 ⟨z168, A169, c169, d169, rfl, hz168, f169, hst168⟩
      refine ⟨_, rfl, ?_⟩
      replace f2 := f2.mono hz168; replace f167 := f167.mono hz168
      replace hy165_0 := hy165_0.trans hz168
      replace hy165_1 := hy165_1.trans hz168
      replace hz165 := hz165.trans hz168
      refine Ops.nil ?_
      refine Run.endBlk ?_
      refine Run.region ?_
      refine Ops.ex (Ex.add rfl rfl) rfl rfl rfl ?_
      refine Ops.ex (Ex.move rfl) rfl rfl rfl ?_
      refine Ops.nil ?_
      refine Run.re 48 rfl (congrArg vi (wr_succ' hl142 hc142)) ?_
      exact Run.sub (by exact subB_spec ⟨rfl, rfl, rfl, rfl, trivial⟩) (Run.stop ⟨p0.Drop.length - (i142 + 1), by omega, i142 + 1, y168.b_, A169, c169, d169, z168, rfl, by omega, (hnxb142 _).symm.trans hf, rfl, hz165, hy165_0, hy165_1, f169, (St.up (St.up (St.up hst168 1 rfl) 2 rfl) 2 rfl)⟩)
    · replace hf := forL_out hf (nlt_of_dec hc)
      try dsimp only at hf
      refine Run.exit _ rfl ?_
      refine Run.seq ?_
      refine Run.region ?_
      refine Ops.ex (Ex.move rfl) rfl rfl rfl ?_
      obtain ⟨y170, hy170, hf⟩ := bnd hf
      refine Ops.call rfl rfl Try.func37 (by kernel_rfl) (by kernel_rfl) rfl (go_pack_Writer_Bytes.walk (p0 := (⟨l164⟩ : packWriter)) (hst := (St.up (St.up (St.up hst165 1 rfl) 2 rfl) 2 rfl)) (f1 := f164) (hf := hy170)) ?_
      rintro _ w170 ⟨z170, A171, c171, rfl, hz170, f171, hst170⟩
      refine ⟨_, rfl, ?_⟩
      replace f2 := f2.mono hz170; replace f164 := f164.mono hz170
      replace hy165_0 := hy165_0.trans hz170
      replace hy165_1 := hy165_1.trans hz170
      replace hz165 := hz165.trans hz170
      refine Ops.str8 (f171.at_ hst170) rfl Try.underlying30 Try.underlying5 Try.underlying9 rfl (?_)
      refine Ops.ex (Ex.assign rfl) rfl rfl rfl ?_
      refine Ops.nil ?_
      obtain rfl := Option.some.inj hf
      exact Run.retV [vs y170] rfl ⟨rfl, trivial⟩ ⟨z170, rfl, hy165_0, (St.forget (St.forget hst170 2) 1)⟩
end Go.Proofs.Ytjlhookdigbjhaa.E5
