/- Edits: EditsBytes, EditsRead. -/
import Derived.Test.YtjlhookdigbjhaaE5
namespace Go.Proofs.Ytjlhookdigbjhaa.E6
open Go Go.RowKit Go.Proofs.Ytjlhookdigbjhaa.Sx Go.Proofs.Ytjlhookdigbjhaa.E1 Go.Proofs.Ytjlhookdigbjhaa.E2 Go.Proofs.Ytjlhookdigbjhaa.E3 Go.Proofs.Ytjlhookdigbjhaa.E4 Go.Proofs.Ytjlhookdigbjhaa.E5
set_option linter.unusedVariables false
set_option linter.unusedSimpArgs false
theorem inf29 : (Try.prog.info? 29).map (fun i => (i.zero, i.size, i.bytes)) = some (some (.agg #[.slice none 0 0, .slice none 0 0, .int .i64 0]), 3, 56) := by kernel_rfl
theorem zr30 : (Try.prog.info? 30).map (·.zero) = some (some (.slice none 0 0)) := by kernel_rfl
theorem inf30 : (Try.prog.info? 30).map (fun i => (i.zero, i.size, i.bytes)) = some (some (.slice none 0 0), 1, 24) := by kernel_rfl
def go_law10_EditsBytes.j1 (nxb1515 : Unit → Option Bool) (b1650 : Bool) : Option Bool :=
  if b1650 then (some false) else (nxb1515 ())
def go_law10_EditsBytes.b3 (i1515 : Nat) (a1515 : editsEdit) : Unit → (Unit → Option Bool) → Option Bool :=
  fun _ nxb1515 => (go_edits_Bytes a1515).bind fun y1624 => (go_edits_Read y1624).bind fun y1626 => (go_law10_bytes a1515).bind fun y1652 => if y1624 = y1652 then (if y1626.2 then ((go_law10_bytes y1626.1).bind fun y1654 => (go_law10_bytes a1515).bind fun y1656 => go_law10_EditsBytes.j1 nxb1515 (!(decide (y1654 = y1656)))) else (go_law10_EditsBytes.j1 nxb1515 true)) else (go_law10_EditsBytes.j1 nxb1515 true)
def go_law10_EditsBytes.b2 (i1146 : Nat) (a1146 : law10Step) : (List editsEdit) → (List editsEdit → Option Bool) → Option Bool :=
  fun l1494 nxb1146 => (go_law10_Step_Edit a1146).bind fun y1507 => if a1146.Odd then (nxb1146 l1494) else ((apB 56 l1494 [y1507]).bind fun l1514 => nxb1146 l1514)
def go_law10_EditsBytes.b1 (i17 : Nat) (a17 : apiRef) : (List apiRef) → (List apiRef → Option Bool) → Option Bool :=
  fun l1117 nxb17 => (atI l1117 (i17 : Int)).bind fun y1119 => (cutI y1119.Name 0 (min (y1119.Name.length : Int) 60)).bind fun s1129 => (putI l1117 (i17 : Int) (⟨s1129, y1119.Kind, y1119.From, y1119.To⟩ : apiRef)).bind fun l1135 => (atI l1135 (i17 : Int)).bind fun y1136 => (putI l1135 (i17 : Int) (⟨y1136.Name, andI y1119.Kind 255, y1136.From, y1136.To⟩ : apiRef)).bind fun l1142 => nxb17 l1142
def go_law10_EditsBytes (p0 : List law10Step) (p1 : editsEdit) : Option Bool :=
  (go_law10_awake).bind fun y6 => if y6 then ((cutI p1.Add 0 (min (p1.Add.length : Int) 20)).bind fun l10 => (cutI p1.Drop 0 (min (p1.Drop.length : Int) 20)).bind fun l11 => (apB 40 [] l10).bind fun l12 => forL (go_law10_EditsBytes.b1) (fun l1117 => (cutI p0 0 (min (p0.length : Int) 20)).bind fun l1145 => forL (go_law10_EditsBytes.b2) (fun l1494 => forL (go_law10_EditsBytes.b3) (fun _ => some true) 0 l1494 ()) 0 l1145 [(⟨l1117, l11, p1.Floor⟩ : editsEdit)]) 0 l12 l12) else (some false)
set_option maxRecDepth 100000 in
set_option maxHeartbeats 4000000 in
theorem go_law10_EditsBytes.walk {w0 w : World} {X : List Res} {z0 : Zp} {p0 : List law10Step} {A1 : Option Addr} {c1 : Nat} {p1 : editsEdit} {A2 : Option Addr} {c2 : Nat} {A3 : Option Addr} {c3 : Nat} {r : Bool} (hst : Ht w0 (frz z0 :: X) w) (f1 : Sl tlaw10Step z0 A1 c1 p0) (f2 : Sl tapiRef z0 A2 c2 p1.Add) (f3 : Sl tS z0 A3 c3 p1.Drop) (hf : go_law10_EditsBytes p0 p1 = some r) :
    Calls Try.prog 7 #[.slice A1 p0.length c1, .agg #[.slice A2 p1.Add.length c2, .slice A3 p1.Drop.length c3, vi p1.Floor]] w fun e w' => ∃ (z' : Zp), e = .returned (vb r) ∧ Le z0 z' ∧ Ht w0 (frz z' :: X) w' := by
  refine calls_np Try.func7 rfl rfl ?_
  have hle0 := Le.refl z0
  unfold go_law10_EditsBytes at hf
  refine Run.seq ?_
  refine Run.region ?_
  refine Ops.boxF [.slice A2 p1.Add.length c2, .slice A3 p1.Drop.length c3, vi p1.Floor] hst rfl rfl rfl (fun g5 w5 hst5 => ?_)
  refine Ops.ex (Ex.assign rfl) rfl rfl rfl ?_
  refine Ops.nil ?_
  refine Run.seq ?_
  refine Run.seq ?_
  refine Run.region ?_
  obtain ⟨y6, hy6, hf⟩ := bnd hf
  refine Ops.call rfl rfl Try.func11 (by kernel_rfl) (by kernel_rfl) rfl (go_law10_awake.walk (hst := hst5) (hf := hy6)) ?_
  rintro _ w6 ⟨z6, rfl, hz6, hst6⟩
  refine ⟨_, rfl, ?_⟩
  replace f1 := f1.mono hz6; replace f2 := f2.mono hz6; replace f3 := f3.mono hz6
  replace hle0 := hle0.trans hz6
  refine Ops.ex (Ex.not rfl) rfl rfl rfl ?_
  refine Ops.nil ?_
  refine Run.cond rfl (fun hc => ?_) (fun hc => ?_)
  · replace hf := ifFb (bn_T hc) hf
    refine Run.seq ?_
    refine Run.region ?_
    refine Ops.ex (Ex.assign rfl) rfl rfl rfl ?_
    refine Ops.nil ?_
    obtain rfl := Option.some.inj hf
    exact Run.retV [vb false] rfl ⟨rfl, trivial⟩ ⟨z6, rfl, hle0, (St.forget hst6 1)⟩
  · replace hf := ifTb (bn_F hc) hf
    refine Run.skip ?_
    refine Run.seq ?_
    have hm9 := Le.refl z6
    refine Run.drawH [([], fun w => ∃ ζ Y, Le z6 ζ ∧ Ht w0 (frz ζ :: Y) w), ([16, 18], fun w => ∃ ζ Y, Le z6 ζ ∧ Ht w0 (frz ζ :: (blk g5 [.slice A2 p1.Add.length c2, .slice A3 p1.Drop.length c3, vi p1.Floor] 29) :: Y) w)] (by kernel_rfl) hst6 (fun w8 hst8 => ?_)
    have hS0 := (⟨_, _, (Le.refl _), hst8⟩ : (fun w => ∃ ζ Y, Le z6 ζ ∧ Ht w0 (frz ζ :: Y) w) _)
    have hS1 := (⟨_, _, (Le.refl _), (St.up (St.up hst8 1 rfl) 1 rfl)⟩ : (fun w => ∃ ζ Y, Le z6 ζ ∧ Ht w0 (frz ζ :: (blk g5 [.slice A2 p1.Add.length c2, .slice A3 p1.Drop.length c3, vi p1.Floor] 29) :: Y) w) _)
    refine Any.takeE 0 rfl rfl rfl rfl (by kernel_rfl) (fun _ _ _ _ _ h => h) ((Ex.fieldAddr rfl Try.underlying29 rfl sz26).s) ?_
    refine Any.take 1 1 rfl rfl rfl rfl rfl (by kernel_rfl) (fun _ _ _ _ _ h => h) (ExS.load rfl Try.underlying26 rfl (fun w hS => by obtain ⟨_, _, _, hs⟩ := hS; exact hs.cell (i := 1) rfl rfl)) hS1 ?_
    refine Any.takeE 2 rfl rfl rfl rfl (by kernel_rfl) (fun _ _ _ _ _ h => h) ((Ex.fieldAddr rfl Try.underlying29 rfl sz26).s) ?_
    refine Any.take 1 3 rfl rfl rfl rfl rfl (by kernel_rfl) (fun _ _ _ _ _ h => h) (ExS.load rfl Try.underlying26 rfl (fun w hS => by obtain ⟨_, _, _, hs⟩ := hS; exact hs.cell (i := 1) rfl rfl)) hS1 ?_
    refine Any.takeE 4 rfl rfl rfl rfl (by kernel_rfl) (fun _ _ _ _ _ h => h) ((Ex.len' rfl rfl rfl Try.underlying26).s) ?_
    refine Any.takeE 5 rfl rfl rfl rfl (by kernel_rfl) (fun _ _ _ _ _ h => h) ((Ex.min2 rfl rfl rfl).s) ?_
    obtain ⟨l10, hy10, hf⟩ := bnd hf
    obtain ⟨A10, c10, hA10, hB10, f10⟩ := SlH.sub f2.toH hy10
    replace f10 := f10.toS
    refine Any.takeE 6 rfl rfl rfl rfl (by kernel_rfl) (fun _ _ _ _ _ h => h) ((Ex.subA hA10 hB10 hy10 rfl rfl Try.underlying26 sz24 rfl rfl).s) ?_
    refine Any.takeE 8 rfl rfl rfl rfl (by kernel_rfl) (fun _ _ _ _ _ h => h) ((Ex.fieldAddr rfl Try.underlying29 rfl sz27).s) ?_
    refine Any.take 1 9 rfl rfl rfl rfl rfl (by kernel_rfl) (fun _ _ _ _ _ h => h) (ExS.load rfl Try.underlying27 rfl (fun w hS => by obtain ⟨_, _, _, hs⟩ := hS; exact hs.cell (i := 1) rfl rfl)) hS1 ?_
    refine Any.takeE 10 rfl rfl rfl rfl (by kernel_rfl) (fun _ _ _ _ _ h => h) ((Ex.fieldAddr rfl Try.underlying29 rfl sz27).s) ?_
    refine Any.take 1 11 rfl rfl rfl rfl rfl (by kernel_rfl) (fun _ _ _ _ _ h => h) (ExS.load rfl Try.underlying27 rfl (fun w hS => by obtain ⟨_, _, _, hs⟩ := hS; exact hs.cell (i := 1) rfl rfl)) hS1 ?_
    refine Any.takeE 12 rfl rfl rfl rfl (by kernel_rfl) (fun _ _ _ _ _ h => h) ((Ex.len' rfl rfl rfl Try.underlying27).s) ?_
    refine Any.takeE 13 rfl rfl rfl rfl (by kernel_rfl) (fun _ _ _ _ _ h => h) ((Ex.min2 rfl rfl rfl).s) ?_
    obtain ⟨l11, hy11, hf⟩ := bnd hf
    obtain ⟨A11, c11, hA11, hB11, f11⟩ := SlH.sub f3.toH hy11
    replace f11 := f11.toS
    refine Any.takeE 14 rfl rfl rfl rfl (by kernel_rfl) (fun _ _ _ _ _ h => h) ((Ex.subA hA11 hB11 hy11 rfl rfl Try.underlying27 sz9 rfl rfl).s) ?_
    have hst13 := hst8.row0 24 4
    obtain ⟨l12, hy12, hf⟩ := bnd hf
    refine Any.one 7 (by kernel_rfl) rfl rfl (One.of_ops rfl ?_)
    refine Ops.app 1 hst13 rfl (Cs.nil tapiRef z6) rfl (f10.at_ hst13) rfl hy12 rfl rfl rfl rfl Try.underlying26 inf24 rfl (by decide) (by decide) rfl (fun A12 c12 d12 w12 f12 hst12 => Ops.stop ?_)
    have hS0 := (⟨_, _, (Le.refl _), hst12⟩ : (fun w => ∃ ζ Y, Le z6 ζ ∧ Ht w0 (frz ζ :: Y) w) _)
    have hS1 := (⟨_, _, (Le.refl _), (St.up (St.up hst12 2 rfl) 1 rfl)⟩ : (fun w => ∃ ζ Y, Le z6 ζ ∧ Ht w0 (frz ζ :: (blk g5 [.slice A2 p1.Add.length c2, .slice A3 p1.Drop.length c3, vi p1.Floor] 29) :: Y) w) _)
    refine ⟨⟨.inr (fun _ => hS0), .inr (fun _ => hS1), trivial⟩, ?_⟩
    refine Any.takeE 15 rfl rfl rfl rfl (by kernel_rfl) (fun _ _ _ _ _ h => h) ((Ex.fieldAddr rfl Try.underlying29 rfl sz26).s) ?_
    refine Any.one 16 (by kernel_rfl) rfl rfl (One.of_ops rfl ?_)
    refine Ops.store 2 [.slice A12 l12.length c12] hst12 rfl rfl rfl rfl sz26 rfl (by simp [Value.oneCell']) (by simp) (fun w15 hst15 => Ops.stop ?_)
    have hS0 := (⟨_, _, (Le.refl _), hst15⟩ : (fun w => ∃ ζ Y, Le z6 ζ ∧ Ht w0 (frz ζ :: Y) w) _)
    refine ⟨⟨.inr (fun _ => hS0), .inl (by decide), trivial⟩, ?_⟩
    refine Any.takeE 17 rfl rfl rfl rfl (by kernel_rfl) (fun _ _ _ _ _ h => h) ((Ex.fieldAddr rfl Try.underlying29 rfl sz27).s) ?_
    refine Any.one 18 (by kernel_rfl) rfl rfl (One.of_ops rfl ?_)
    refine Ops.store 2 [.slice A11 l11.length c11] hst15 rfl rfl rfl rfl sz27 rfl (by simp [Value.oneCell']) (by simp) (fun w16 hst16 => Ops.stop ?_)
    have hS0 := (⟨_, _, (Le.refl _), hst16⟩ : (fun w => ∃ ζ Y, Le z6 ζ ∧ Ht w0 (frz ζ :: Y) w) _)
    refine ⟨⟨.inr (fun _ => hS0), .inl (by decide), trivial⟩, ?_⟩
    refine Any.done (by kernel_rfl) ?_
    refine Run.seq ?_
    refine Run.seq ?_
    refine Run.region ?_
    refine Ops.ex (Ex.fieldAddr rfl Try.underlying29 rfl sz26) rfl rfl rfl ?_
    refine Ops.load rfl Try.underlying26 rfl (hst16.cell (i := 2) rfl rfl) rfl ?_
    refine Ops.ex (Ex.len' rfl rfl rfl Try.underlying26) rfl rfl rfl ?_
    refine Ops.ex (Ex.move rfl) rfl rfl rfl ?_
    refine Ops.nil ?_
    refine Run.block ?_
    have hc17 := (own_slh f12 rfl (hst16.get (i := 1) rfl)).cap
    refine Run.sub (e' := [(0, .slice A1 p0.length c1), (3, .pointer (some ⟨g5, 0, none⟩)), (36, .slice A12 l12.length c12), (37, vi (l12.length : Int)), (38, vi ((0 : Nat) : Int))]) (subB_spec ⟨rfl, rfl, rfl, rfl, rfl, trivial⟩) ?_
    refine Run.loop (fun mb17 => (fun e' w' => ∃ (i17 : Nat) (l1117 : List apiRef) (d1117 : List Value) (z1116 : Zp), mb17 = l12.length - i17 ∧ i17 ≤ l12.length ∧ forL (go_law10_EditsBytes.b1) (fun l1117 => (cutI p0 0 (min (p0.length : Int) 20)).bind fun l1145 => forL (go_law10_EditsBytes.b2) (fun l1494 => forL (go_law10_EditsBytes.b3) (fun _ => some true) 0 l1494 ()) 0 l1145 [(⟨l1117, l11, p1.Floor⟩ : editsEdit)]) i17 (l12.drop i17) l1117 = some r ∧ e' = [(0, .slice A1 p0.length c1), (3, .pointer (some ⟨g5, 0, none⟩)), (36, .slice A12 l12.length c12), (37, vi (l12.length : Int)), (38, vi (i17 : Int))] ∧ Le z6 z1116 ∧ Le z0 z1116 ∧ Cs tapiRef z1116 d1117 l1117 ∧ l1117.length = l12.length ∧ Ht w0 (frz z1116 :: (orow 24 4 (.slice A12 l12.length c12) l12.length d1117) :: (blk g5 [.slice A12 l12.length c12, .slice A11 l11.length c11, vi p1.Floor] 29) :: X) w')) l12.length ⟨0, l12, d12, z6, rfl, Nat.zero_le _, hf, rfl, hm9, hle0, f12, rfl, hst16⟩ ?_
    rintro _ e' w1118 ⟨i17, l1117, d1117, z1116, rfl, hi17, hf, rfl, hz1118, hy1118_0, f1117, hn1117, hst1118⟩
    replace f1 := f1.mono hz1118; replace f11 := f11.mono hz1118
    refine Run.seq ?_
    refine Run.region ?_
    refine Ops.ex (Ex.lss rfl rfl) rfl rfl rfl ?_
    refine Ops.nil ?_
    refine Run.seq ?_
    refine Run.cond rfl (fun hc => ?_) (fun hc => ?_)
    · have hl17 := lt_of_dec hc
      obtain ⟨a17, nxb17, ha17, hnxb17, hf⟩ := forL_in hf hl17
      unfold go_law10_EditsBytes.b1 at hf
      try dsimp only at hf
      refine Run.skip ?_
      refine Run.seq ?_
      refine Run.block ?_
      refine Run.seq ?_
      refine Run.region ?_
      refine Ops.ex (Ex.move rfl) rfl rfl rfl ?_
      obtain ⟨y1119, hy1119, hf⟩ := bnd hf
      obtain ⟨g1124, p1124, o1124, cs1124, hA1124, ho1124, hr1124, f1124⟩ := own_elem f1117 hn1117 (hst1118.get (i := 1) rfl) hy1119
      obtain rfl := hr1124
      refine Ops.ex (Ex.ixA hA1124 ho1124 hy1119 hn1117 rfl rfl Try.underlying26 sz24) rfl rfl rfl ?_
      refine Ops.loadAgg [vs y1119.Name, vi y1119.Kind, vi y1119.From, vi y1119.To] rfl Try.underlying24 rfl sz24 rfl (cells_of_zc rfl (f1124 _ (hst1118.get (i := 1) rfl))) rfl ?_
      refine Ops.allocF [vs [], vi 0, vi 0, vi 0] hst1118 zr24 rfl rfl (fun g1125 w1125 hst1125 => ?_)
      refine Ops.ex (Ex.assign rfl) rfl rfl rfl ?_
      refine Ops.store 1 [vs y1119.Name, vi y1119.Kind, vi y1119.From, vi y1119.To] hst1125 rfl rfl rfl rfl sz24 rfl (by simp [Value.oneCell']) (by simp) (fun w1126 hst1126 => ?_)
      refine Ops.nil ?_
      have hm1128 := Le.refl z1116
      refine Run.drawH [([], fun w => ∃ ζ Y, Le z1116 ζ ∧ Ht w0 (frz ζ :: (blk g1125 [vs y1119.Name, vi y1119.Kind, vi y1119.From, vi y1119.To] 24) :: (blk g5 [.slice A12 l12.length c12, .slice A11 l11.length c11, vi p1.Floor] 29) :: Y) w), ([18, 21], fun w => ∃ ζ Y, Le z1116 ζ ∧ Ht w0 (frz ζ :: (orow 24 4 (.slice A12 l12.length c12) l12.length d1117) :: Y) w)] (by kernel_rfl) hst1126 (fun w1127 hst1127 => ?_)
      have hS0 := (⟨_, _, (Le.refl _), (St.up (St.up (St.up hst1127 3 rfl) 2 rfl) 2 rfl)⟩ : (fun w => ∃ ζ Y, Le z1116 ζ ∧ Ht w0 (frz ζ :: (blk g1125 [vs y1119.Name, vi y1119.Kind, vi y1119.From, vi y1119.To] 24) :: (blk g5 [.slice A12 l12.length c12, .slice A11 l11.length c11, vi p1.Floor] 29) :: Y) w) _)
      have hS1 := (⟨_, _, (Le.refl _), (St.up (St.up hst1127 2 rfl) 1 rfl)⟩ : (fun w => ∃ ζ Y, Le z1116 ζ ∧ Ht w0 (frz ζ :: (orow 24 4 (.slice A12 l12.length c12) l12.length d1117) :: Y) w) _)
      refine Any.takeE 0 rfl rfl rfl rfl (by kernel_rfl) (fun _ _ _ _ _ h => h) ((Ex.fieldAddr rfl Try.underlying29 rfl sz26).s) ?_
      refine Any.take 0 1 rfl rfl rfl rfl rfl (by kernel_rfl) (fun _ _ _ _ _ h => h) (ExS.load rfl Try.underlying26 rfl (fun w hS => by obtain ⟨_, _, _, hs⟩ := hS; exact hs.cell (i := 2) rfl rfl)) hS0 ?_
      refine Any.takeE 2 rfl rfl rfl rfl (by kernel_rfl) (fun _ _ _ _ _ h => h) ((Ex.move rfl).s) ?_
      refine Any.takeE 3 rfl rfl rfl rfl (by kernel_rfl) (fun _ _ _ _ _ h => h) ((Ex.fieldAddr rfl Try.underlying29 rfl sz26).s) ?_
      refine Any.take 0 4 rfl rfl rfl rfl rfl (by kernel_rfl) (fun _ _ _ _ _ h => h) (ExS.load rfl Try.underlying26 rfl (fun w hS => by obtain ⟨_, _, _, hs⟩ := hS; exact hs.cell (i := 2) rfl rfl)) hS0 ?_
      refine Any.takeE 5 rfl rfl rfl rfl (by kernel_rfl) (fun _ _ _ _ _ h => h) ((Ex.move rfl).s) ?_
      refine Any.takeE 6 rfl rfl rfl rfl (by kernel_rfl) (fun _ _ _ _ _ h => h) ((Ex.fieldAddr rfl Try.underlying24 rfl sz9).s) ?_
      refine Any.take 0 7 rfl rfl rfl rfl rfl (by kernel_rfl) (fun _ _ _ _ _ h => h) (ExS.load rfl Try.underlying9 rfl (fun w hS => by obtain ⟨_, _, _, hs⟩ := hS; exact hs.cell (i := 1) rfl rfl)) hS0 ?_
      refine Any.takeE 8 rfl rfl rfl rfl (by kernel_rfl) (fun _ _ _ _ _ h => h) ((Ex.fieldAddr rfl Try.underlying24 rfl sz9).s) ?_
      refine Any.take 0 9 rfl rfl rfl rfl rfl (by kernel_rfl) (fun _ _ _ _ _ h => h) (ExS.load rfl Try.underlying9 rfl (fun w hS => by obtain ⟨_, _, _, hs⟩ := hS; exact hs.cell (i := 1) rfl rfl)) hS0 ?_
      refine Any.takeE 10 rfl rfl rfl rfl (by kernel_rfl) (fun _ _ _ _ _ h => h) ((Ex.lenT rfl rfl rfl Try.underlying9).s) ?_
      refine Any.takeE 11 rfl rfl rfl rfl (by kernel_rfl) (fun _ _ _ _ _ h => h) ((Ex.min2 rfl rfl rfl).s) ?_
      obtain ⟨s1129, hy1129, hf⟩ := bnd hf
      refine Any.takeE 12 rfl rfl rfl rfl (by kernel_rfl) (fun _ _ _ _ _ h => h) ((Ex.cutTh (lo := none) (hi := some _) hy1129 rfl Try.underlying9 rfl ⟨_, rfl⟩).s) ?_
      refine Any.takeE 13 rfl rfl rfl rfl (by kernel_rfl) (fun _ _ _ _ _ h => h) ((Ex.fieldAddr rfl Try.underlying24 rfl sz22).s) ?_
      refine Any.take 0 14 rfl rfl rfl rfl rfl (by kernel_rfl) (fun _ _ _ _ _ h => h) (ExS.load rfl Try.underlying22 rfl (fun w hS => by obtain ⟨_, _, _, hs⟩ := hS; exact hs.cell (i := 1) rfl rfl)) hS0 ?_
      refine Any.takeE 15 rfl rfl rfl rfl (by kernel_rfl) (fun _ _ _ _ _ h => h) ((Ex.andI rfl rfl).s) ?_
      obtain ⟨g1134, p1134, o1134, cs1134, hA1134, ho1134, hr1134, f1134⟩ := own_elem f1117 hn1117 (hst1127.get (i := 2) rfl) hy1119
      obtain rfl := hr1134
      refine Any.takeE 16 rfl rfl rfl rfl (by kernel_rfl) (fun _ _ _ _ _ h => h) ((Ex.ixA hA1134 ho1134 hy1119 hn1117 rfl rfl Try.underlying26 sz24).s) ?_
      refine Any.takeE 17 rfl rfl rfl rfl (by kernel_rfl) (fun _ _ _ _ _ h => h) ((Ex.fieldAddr rfl Try.underlying24 rfl sz9).s) ?_
      obtain ⟨l1135, hy1135, hf⟩ := bnd hf
      refine Any.one 18 (by kernel_rfl) rfl rfl (One.of_ops rfl ?_)
      refine Ops.storeN (off := 0) (cs := [vs y1119.Name, vi y1119.Kind, vi y1119.From, vi y1119.To]) (cs' := [vs s1129, vi y1119.Kind, vi y1119.From, vi y1119.To]) 2 hst1127 rfl f1117 hn1117 hA1134 ho1134 hy1135 f1134 rfl rfl rfl rfl rfl rfl sz9 rfl (by simp [Value.oneCell']) (by simp) (fun d1135 w1135 f1135 hn1135 hst1135 => Ops.stop ?_)
      have hS0 := (⟨_, _, (Le.refl _), (St.up (St.up (St.up hst1135 3 rfl) 2 rfl) 2 rfl)⟩ : (fun w => ∃ ζ Y, Le z1116 ζ ∧ Ht w0 (frz ζ :: (blk g1125 [vs y1119.Name, vi y1119.Kind, vi y1119.From, vi y1119.To] 24) :: (blk g5 [.slice A12 l12.length c12, .slice A11 l11.length c11, vi p1.Floor] 29) :: Y) w) _)
      refine ⟨⟨.inr (fun _ => hS0), .inl (by decide), trivial⟩, ?_⟩
      obtain ⟨y1136, hy1136, hf⟩ := bnd hf
      obtain ⟨g1141, p1141, o1141, cs1141, hA1141, ho1141, hr1141, f1141⟩ := own_elem f1135 hn1135 (hst1135.get (i := 2) rfl) hy1136
      obtain rfl := hr1141
      refine Any.takeE 19 rfl rfl rfl rfl (by kernel_rfl) (fun _ _ _ _ _ h => h) ((Ex.ixA hA1141 ho1141 hy1136 hn1135 rfl rfl Try.underlying26 sz24).s) ?_
      refine Any.takeE 20 rfl rfl rfl rfl (by kernel_rfl) (fun _ _ _ _ _ h => h) ((Ex.fieldAddr rfl Try.underlying24 rfl sz22).s) ?_
      obtain ⟨l1142, hy1142, hf⟩ := bnd hf
      refine Any.one 21 (by kernel_rfl) rfl rfl (One.of_ops rfl ?_)
      refine Ops.storeN (off := 1) (cs := [vs y1136.Name, vi y1136.Kind, vi y1136.From, vi y1136.To]) (cs' := [vs y1136.Name, vi (andI y1119.Kind 255), vi y1136.From, vi y1136.To]) 2 hst1135 rfl f1135 hn1135 hA1141 ho1141 hy1142 f1141 rfl rfl rfl rfl rfl rfl sz22 rfl (by simp [Value.oneCell']) (by simp) (fun d1142 w1142 f1142 hn1142 hst1142 => Ops.stop ?_)
      have hS0 := (⟨_, _, (Le.refl _), (St.up (St.up (St.up hst1142 3 rfl) 2 rfl) 2 rfl)⟩ : (fun w => ∃ ζ Y, Le z1116 ζ ∧ Ht w0 (frz ζ :: (blk g1125 [vs y1119.Name, vi y1119.Kind, vi y1119.From, vi y1119.To] 24) :: (blk g5 [.slice A12 l12.length c12, .slice A11 l11.length c11, vi p1.Floor] 29) :: Y) w) _)
      refine ⟨⟨.inr (fun _ => hS0), .inl (by decide), trivial⟩, ?_⟩
      refine Any.done (by kernel_rfl) ?_
      refine Run.endBlk ?_
      refine Run.region ?_
      refine Ops.ex (Ex.add rfl rfl) rfl rfl rfl ?_
      refine Ops.ex (Ex.move rfl) rfl rfl rfl ?_
      refine Ops.nil ?_
      refine Run.re 38 rfl (congrArg vi (wr_succ' hl17 hc17)) ?_
      exact Run.sub (by exact subB_spec ⟨rfl, rfl, rfl, rfl, rfl, trivial⟩) (Run.stop ⟨l12.length - (i17 + 1), by omega, i17 + 1, l1142, d1142, z1116, rfl, by omega, (hnxb17 _).symm.trans hf, rfl, hz1118, hy1118_0, f1142, hn1142, (St.forget hst1142 1)⟩)
    · replace hf := forL_out hf (nlt_of_dec hc)
      try dsimp only at hf
      refine Run.exit _ rfl ?_
      refine Run.seq ?_
      refine Run.region ?_
      refine Ops.loadAgg _ rfl Try.underlying29 rfl sz29 rfl (hst1118.cells (i := 2) rfl 0 3) rfl ?_
      obtain ⟨z1144, hz1144, f1144, hst1144⟩ := St.freeze (τ := tapiRef) (xs := l1117) hst1118 f1117 hn1117
      replace f1 := f1.mono hz1144; replace f11 := f11.mono hz1144
      replace hy1118_0 := hy1118_0.trans hz1144
      replace hz1118 := hz1118.trans hz1144
      refine Ops.sliceF [.slice A12 l12.length c12, .slice A11 l11.length c11, vi p1.Floor] hst1144 rfl Try.underlying46 sz29 zr29 rfl rfl (by kernel_rfl) rfl (by simp [Value.oneCell']) rfl (fun A1143 w1143 hst1143 => ?_)
      have f1143 : Cs teditsEdit z1144 [.slice A12 l12.length c12, .slice A11 l11.length c11, vi p1.Floor] [(⟨l1117, l11, p1.Floor⟩ : editsEdit)] := (Cs.cons (c := [.slice A12 l12.length c12, .slice A11 l11.length c11, vi p1.Floor]) ⟨_, _, _, _, (by simp [hn1117]), f1144, f11⟩ (Cs.nil _ _))
      refine Ops.ex (Ex.assign rfl) rfl rfl rfl ?_
      refine Ops.nil ?_
      refine Run.seq ?_
      refine Run.seq ?_
      refine Run.region ?_
      refine Ops.ex (Ex.move rfl) rfl rfl rfl ?_
      refine Ops.ex (Ex.move rfl) rfl rfl rfl ?_
      refine Ops.ex (Ex.len' rfl rfl rfl Try.underlying36) rfl rfl rfl ?_
      refine Ops.ex (Ex.min2 rfl rfl rfl) rfl rfl rfl ?_
      obtain ⟨l1145, hy1145, hf⟩ := bnd hf
      obtain ⟨A1145, c1145, hA1145, hB1145, f1145⟩ := SlH.sub f1.toH hy1145
      replace f1145 := f1145.toS
      refine Ops.ex (Ex.subA hA1145 hB1145 hy1145 rfl rfl Try.underlying36 sz32 rfl rfl) rfl rfl rfl ?_
      refine Ops.ex (Ex.len' rfl rfl rfl Try.underlying36) rfl rfl rfl ?_
      refine Ops.ex (Ex.move rfl) rfl rfl rfl ?_
      refine Ops.nil ?_
      refine Run.block ?_
      have hc1146 := f1145.cap
      have hm1147 := Le.refl z1144
      refine Run.sub (e' := [(7, .slice A1143 [(⟨l1117, l11, p1.Floor⟩ : editsEdit)].length 1), (70, .slice A1145 l1145.length c1145), (71, vi (l1145.length : Int)), (72, vi ((0 : Nat) : Int))]) (subB_spec ⟨rfl, rfl, rfl, rfl, trivial⟩) ?_
      refine Run.loop (fun mb1146 => (fun e' w' => ∃ (i1146 : Nat) (l1494 : List editsEdit) (A1494 : Option Addr) (c1494 : Nat) (d1494 : List Value) (z1493 : Zp), mb1146 = l1145.length - i1146 ∧ i1146 ≤ l1145.length ∧ forL (go_law10_EditsBytes.b2) (fun l1494 => forL (go_law10_EditsBytes.b3) (fun _ => some true) 0 l1494 ()) i1146 (l1145.drop i1146) l1494 = some r ∧ e' = [(7, .slice A1494 l1494.length c1494), (70, .slice A1145 l1145.length c1145), (71, vi (l1145.length : Int)), (72, vi (i1146 : Int))] ∧ Le z1144 z1493 ∧ Le z0 z1493 ∧ Le z6 z1493 ∧ Cs teditsEdit z1493 d1494 l1494 ∧ Ht w0 (frz z1493 :: (orow 29 3 (.slice A1494 l1494.length c1494) l1494.length d1494) :: X) w')) l1145.length ⟨0, [(⟨l1117, l11, p1.Floor⟩ : editsEdit)], A1143, 1, [.slice A12 l12.length c12, .slice A11 l11.length c11, vi p1.Floor], z1144, rfl, Nat.zero_le _, hf, rfl, hm1147, hy1118_0, hz1118, f1143, (St.forget hst1143 2)⟩ ?_
      rintro _ e' w1495 ⟨i1146, l1494, A1494, c1494, d1494, z1493, rfl, hi1146, hf, rfl, hz1495, hy1495_0, hy1495_1, f1494, hst1495⟩
      replace f1145 := f1145.mono hz1495
      refine Run.seq ?_
      refine Run.region ?_
      refine Ops.ex (Ex.lss rfl rfl) rfl rfl rfl ?_
      refine Ops.nil ?_
      refine Run.seq ?_
      refine Run.cond rfl (fun hc => ?_) (fun hc => ?_)
      · have hl1146 := lt_of_dec hc
        obtain ⟨a1146, nxb1146, ha1146, hnxb1146, hf⟩ := forL_in hf hl1146
        unfold go_law10_EditsBytes.b2 at hf
        try dsimp only at hf
        refine Run.skip ?_
        refine Run.seq ?_
        refine Run.block ?_
        refine Run.seq ?_
        refine Run.region ?_
        obtain ⟨g1504, p1504, o1504, cs1504, hA1504, ho1504, hr1504, f1504⟩ := SlH.elem f1145.toH (atI_nat ha1146)
        obtain ⟨A1496, c1496, A1497, c1497, rfl, f1496, f1497⟩ := hr1504
        refine Ops.ex (Ex.ixA hA1504 ho1504 (atI_nat ha1146) rfl rfl rfl Try.underlying36 sz32) rfl rfl rfl ?_
        refine Ops.loadAgg [.slice A1496 a1146.Add.length c1496, .slice A1497 a1146.Drop.length c1497, vu8 a1146.Floor, vb a1146.Odd, vs a1146.Any.Name, vi a1146.Any.Kind, vi a1146.Any.From, vi a1146.Any.To] rfl Try.underlying32 rfl sz32 rfl (cells_of_zc rfl (f1504.mono hst1495.le)) rfl ?_
        refine Ops.allocF [.slice none 0 0, .slice none 0 0, vu8 0, vb false, vs [], vi 0, vi 0, vi 0] hst1495 zr32 rfl rfl (fun g1505 w1505 hst1505 => ?_)
        refine Ops.store 1 [.slice A1496 a1146.Add.length c1496, .slice A1497 a1146.Drop.length c1497, vu8 a1146.Floor, vb a1146.Odd, vs a1146.Any.Name, vi a1146.Any.Kind, vi a1146.Any.From, vi a1146.Any.To] hst1505 rfl rfl rfl rfl sz32 rfl (by simp [Value.oneCell']) (by simp) (fun w1506 hst1506 => ?_)
        refine Ops.nil ?_
        refine Run.seq ?_
        refine Run.region ?_
        refine Ops.loadAgg _ rfl Try.underlying32 rfl sz32 rfl (hst1506.cells (i := 1) rfl 0 8) rfl ?_
        obtain ⟨y1507, hy1507, hf⟩ := bnd hf
        refine Ops.call rfl rfl Try.func12 (by kernel_rfl) (by kernel_rfl) rfl (go_law10_Step_Edit.walk (p0 := a1146) (hst := hst1506) (f1 := f1496) (f2 := f1497) (hf := hy1507)) ?_
        rintro _ w1507 ⟨z1507, A1508, c1508, A1509, c1509, rfl, hz1507, f1508, f1509, hst1507⟩
        refine ⟨_, rfl, ?_⟩
        replace f1145 := f1145.mono hz1507; replace f1504 := f1504.mono hz1507; replace f1496 := f1496.mono hz1507; replace f1497 := f1497.mono hz1507; replace f1494 := f1494.mono hz1507
        replace hy1495_0 := hy1495_0.trans hz1507
        replace hy1495_1 := hy1495_1.trans hz1507
        replace hz1495 := hz1495.trans hz1507
        refine Ops.allocF [.slice none 0 0, .slice none 0 0, vi 0] hst1507 zr29 rfl rfl (fun g1511 w1511 hst1511 => ?_)
        refine Ops.store 1 [.slice A1508 y1507.Add.length c1508, .slice A1509 y1507.Drop.length c1509, vi y1507.Floor] hst1511 rfl rfl rfl rfl sz29 rfl (by simp [Value.oneCell']) (by simp) (fun w1512 hst1512 => ?_)
        refine Ops.nil ?_
        refine Run.seq ?_
        refine Run.region ?_
        refine Ops.ex (Ex.fieldAddr rfl Try.underlying32 rfl sz4) rfl rfl rfl ?_
        refine Ops.load rfl Try.underlying4 rfl (hst1512.cell (i := 2) rfl rfl) rfl ?_
        refine Ops.ex (Ex.not rfl) rfl rfl rfl ?_
        refine Ops.nil ?_
        refine Run.cond rfl (fun hc => ?_) (fun hc => ?_)
        · replace hf := ifFb (bn_T hc) hf
          refine Run.region ?_
          refine Ops.ex (Ex.move rfl) rfl rfl rfl ?_
          refine Ops.loadAgg _ rfl Try.underlying29 rfl sz29 rfl (hst1512.cells (i := 1) rfl 0 3) rfl ?_
          refine Ops.sliceF [.slice A1508 y1507.Add.length c1508, .slice A1509 y1507.Drop.length c1509, vi y1507.Floor] hst1512 rfl Try.underlying46 sz29 zr29 rfl rfl (by kernel_rfl) rfl (by simp [Value.oneCell']) rfl (fun A1513 w1513 hst1513 => ?_)
          have f1513 : Cs teditsEdit z1507 [.slice A1508 y1507.Add.length c1508, .slice A1509 y1507.Drop.length c1509, vi y1507.Floor] [y1507] := (Cs.cons (c := [.slice A1508 y1507.Add.length c1508, .slice A1509 y1507.Drop.length c1509, vi y1507.Floor]) ⟨_, _, _, _, rfl, f1508, f1509⟩ (Cs.nil _ _))
          obtain ⟨l1514, hy1514, hf⟩ := bnd hf
          refine Ops.app 4 hst1513 rfl f1494 rfl (own_slh f1513 rfl (hst1513.get (i := 1) rfl)) rfl hy1514 rfl rfl rfl rfl Try.underlying46 inf29 rfl (by decide) (by decide) rfl (fun A1514 c1514 d1514 w1514 f1514 hst1514 => ?_)
          refine Ops.ex (Ex.assign rfl) rfl rfl rfl ?_
          refine Ops.nil ?_
          refine Run.endBlk ?_
          refine Run.region ?_
          refine Ops.ex (Ex.add rfl rfl) rfl rfl rfl ?_
          refine Ops.ex (Ex.move rfl) rfl rfl rfl ?_
          refine Ops.nil ?_
          refine Run.re 72 rfl (congrArg vi (wr_succ' hl1146 hc1146)) ?_
          exact Run.sub (by exact subB_spec ⟨rfl, rfl, rfl, rfl, trivial⟩) (Run.stop ⟨l1145.length - (i1146 + 1), by omega, i1146 + 1, l1514, A1514, c1514, d1514, z1507, rfl, by omega, (hnxb1146 _).symm.trans hf, rfl, hz1495, hy1495_0, hy1495_1, f1514, (St.forget (St.forget (St.forget hst1514 3) 2) 1)⟩)
        · replace hf := ifTb (bn_F hc) hf
          refine Run.skip ?_
          refine Run.endBlk ?_
          refine Run.region ?_
          refine Ops.ex (Ex.add rfl rfl) rfl rfl rfl ?_
          refine Ops.ex (Ex.move rfl) rfl rfl rfl ?_
          refine Ops.nil ?_
          refine Run.re 72 rfl (congrArg vi (wr_succ' hl1146 hc1146)) ?_
          exact Run.sub (by exact subB_spec ⟨rfl, rfl, rfl, rfl, trivial⟩) (Run.stop ⟨l1145.length - (i1146 + 1), by omega, i1146 + 1, l1494, A1494, c1494, d1494, z1507, rfl, by omega, (hnxb1146 _).symm.trans hf, rfl, hz1495, hy1495_0, hy1495_1, f1494, (St.forget (St.forget hst1512 2) 1)⟩)
      · replace hf := forL_out hf (nlt_of_dec hc)
        try dsimp only at hf
        refine Run.exit _ rfl ?_
        refine Run.seq ?_
        refine Run.seq ?_
        refine Run.region ?_
        refine Ops.ex (Ex.move rfl) rfl rfl rfl ?_
        refine Ops.ex (Ex.len' rfl rfl rfl Try.underlying46) rfl rfl rfl ?_
        refine Ops.ex (Ex.move rfl) rfl rfl rfl ?_
        refine Ops.nil ?_
        refine Run.block ?_
        have hc1515 := (own_slh f1494 rfl (hst1495.get (i := 1) rfl)).cap
        have hm1516 := Le.refl z1493
        refine Run.sub (e' := [(86, .slice A1494 l1494.length c1494), (87, vi (l1494.length : Int)), (88, vi ((0 : Nat) : Int))]) (subB_spec ⟨rfl, rfl, rfl, trivial⟩) ?_
        refine Run.loop (fun mb1515 => (fun e' w' => ∃ (i1515 : Nat) (z1616 : Zp), mb1515 = l1494.length - i1515 ∧ i1515 ≤ l1494.length ∧ forL (go_law10_EditsBytes.b3) (fun _ => some true) i1515 (l1494.drop i1515) () = some r ∧ e' = [(86, .slice A1494 l1494.length c1494), (87, vi (l1494.length : Int)), (88, vi (i1515 : Int))] ∧ Le z1493 z1616 ∧ Le z0 z1616 ∧ Le z6 z1616 ∧ Le z1144 z1616 ∧ Ht w0 (frz z1616 :: (orow 29 3 (.slice A1494 l1494.length c1494) l1494.length d1494) :: X) w')) l1494.length ⟨0, z1493, rfl, Nat.zero_le _, hf, rfl, hm1516, hy1495_0, hy1495_1, hz1495, hst1495⟩ ?_
        rintro _ e' w1617 ⟨i1515, z1616, rfl, hi1515, hf, rfl, hz1617, hy1617_0, hy1617_1, hy1617_2, hst1617⟩
        replace f1494 := f1494.mono hz1617
        refine Run.seq ?_
        refine Run.region ?_
        refine Ops.ex (Ex.lss rfl rfl) rfl rfl rfl ?_
        refine Ops.nil ?_
        refine Run.seq ?_
        refine Run.cond rfl (fun hc => ?_) (fun hc => ?_)
        · have hl1515 := lt_of_dec hc
          obtain ⟨a1515, nxb1515, ha1515, hnxb1515, hf⟩ := forL_in hf hl1515
          unfold go_law10_EditsBytes.b3 at hf
          try dsimp only at hf
          refine Run.skip ?_
          refine Run.seq ?_
          refine Run.block ?_
          refine Run.seq ?_
          refine Run.region ?_
          obtain ⟨g1621, p1621, o1621, cs1621, hA1621, ho1621, hr1621, f1621⟩ := own_elem f1494 rfl (hst1617.get (i := 1) rfl) (atI_nat ha1515)
          obtain ⟨A1618, c1618, A1619, c1619, rfl, f1618, f1619⟩ := hr1621
          refine Ops.ex (Ex.ixA hA1621 ho1621 (atI_nat ha1515) rfl rfl rfl Try.underlying46 sz29) rfl rfl rfl ?_
          refine Ops.loadAgg [.slice A1618 a1515.Add.length c1618, .slice A1619 a1515.Drop.length c1619, vi a1515.Floor] rfl Try.underlying29 rfl sz29 rfl (cells_of_zc rfl (f1621 _ (hst1617.get (i := 1) rfl))) rfl ?_
          refine Ops.allocF [.slice none 0 0, .slice none 0 0, vi 0] hst1617 zr29 rfl rfl (fun g1622 w1622 hst1622 => ?_)
          refine Ops.store 1 [.slice A1618 a1515.Add.length c1618, .slice A1619 a1515.Drop.length c1619, vi a1515.Floor] hst1622 rfl rfl rfl rfl sz29 rfl (by simp [Value.oneCell']) (by simp) (fun w1623 hst1623 => ?_)
          refine Ops.nil ?_
          refine Run.seq ?_
          refine Run.region ?_
          refine Ops.loadAgg _ rfl Try.underlying29 rfl sz29 rfl (hst1623.cells (i := 1) rfl 0 3) rfl ?_
          obtain ⟨y1624, hy1624, hf⟩ := bnd hf
          refine Ops.call rfl rfl Try.func18 (by kernel_rfl) (by kernel_rfl) rfl (go_edits_Bytes.walk (p0 := a1515) (hst := hst1623) (f1 := f1618) (f2 := f1619) (hf := hy1624)) ?_
          rintro _ w1624 ⟨z1624, A1625, c1625, rfl, hz1624, f1625, hst1624⟩
          refine ⟨_, rfl, ?_⟩
          replace f1618 := f1618.mono hz1624; replace f1619 := f1619.mono hz1624; replace f1494 := f1494.mono hz1624
          replace hy1617_0 := hy1617_0.trans hz1624
          replace hy1617_1 := hy1617_1.trans hz1624
          replace hy1617_2 := hy1617_2.trans hz1624
          replace hz1617 := hz1617.trans hz1624
          refine Ops.ex (Ex.assign rfl) rfl rfl rfl ?_
          refine Ops.nil ?_
          refine Run.seq ?_
          refine Run.region ?_
          refine Ops.ex (Ex.move rfl) rfl rfl rfl ?_
          obtain ⟨y1626, hy1626, hf⟩ := bnd hf
          refine Ops.call rfl rfl Try.func19 (by kernel_rfl) (by kernel_rfl) rfl (go_edits_Read.walk (p0 := y1624) (hst := hst1624) (f1 := f1625) (hf := hy1626)) ?_
          rintro _ w1626 ⟨z1626, A1627, c1627, A1628, c1628, rfl, hz1626, f1627, f1628, hst1626⟩
          refine ⟨_, rfl, ?_⟩
          replace f1618 := f1618.mono hz1626; replace f1619 := f1619.mono hz1626; replace f1625 := f1625.mono hz1626; replace f1494 := f1494.mono hz1626
          replace hy1617_0 := hy1617_0.trans hz1626
          replace hy1617_1 := hy1617_1.trans hz1626
          replace hy1617_2 := hy1617_2.trans hz1626
          replace hz1617 := hz1617.trans hz1626
          refine Ops.ex (Ex.move rfl) rfl rfl rfl ?_
          refine Ops.ex (Ex.extract rfl rfl) rfl rfl rfl ?_
          refine Ops.ex (Ex.extract rfl rfl) rfl rfl rfl ?_
          refine Ops.allocF [.slice none 0 0, .slice none 0 0, vi 0] hst1626 zr29 rfl rfl (fun g1631 w1631 hst1631 => ?_)
          refine Ops.store 1 [.slice A1627 y1626.1.Add.length c1627, .slice A1628 y1626.1.Drop.length c1628, vi y1626.1.Floor] hst1631 rfl rfl rfl rfl sz29 rfl (by simp [Value.oneCell']) (by simp) (fun w1632 hst1632 => ?_)
          refine Ops.ex (Ex.assign rfl) rfl rfl rfl ?_
          refine Ops.nil ?_
          refine Run.seq ?_
          have hm1648 := Le.refl z1626
          apply Run.jn (fun e' w' => ∃ (b1650 : Bool) (z1649 : Zp), go_law10_EditsBytes.j1 nxb1515 b1650 = some r ∧ e' = [(86, .slice A1494 l1494.length c1494), (87, vi (l1494.length : Int)), (88, vi (i1515 : Int)), (114, vb b1650)] ∧ Le z1626 z1649 ∧ Le z0 z1649 ∧ Le z6 z1649 ∧ Le z1144 z1649 ∧ Le z1493 z1649 ∧ Ht w0 (frz z1649 :: (orow 29 3 (.slice A1494 l1494.length c1494) l1494.length d1494) :: X) w')
          · intro hj1633
            refine Run.drawH [([], fun w => ∃ ζ Y, Le z1626 ζ ∧ Ht w0 (frz ζ :: (blk g1631 [.slice A1627 y1626.1.Add.length c1627, .slice A1628 y1626.1.Drop.length c1628, vi y1626.1.Floor] 29) :: (blk g1622 [.slice A1618 a1515.Add.length c1618, .slice A1619 a1515.Drop.length c1619, vi a1515.Floor] 29) :: (orow 29 3 (.slice A1494 l1494.length c1494) l1494.length d1494) :: Y) w)] (by kernel_rfl) hst1632 (fun w1651 hst1651 => ?_)
            have hS0 := (⟨_, _, (Le.refl _), (St.up (St.up (St.up (St.up hst1651 3 rfl) 3 rfl) 3 rfl) 3 rfl)⟩ : (fun w => ∃ ζ Y, Le z1626 ζ ∧ Ht w0 (frz ζ :: (blk g1631 [.slice A1627 y1626.1.Add.length c1627, .slice A1628 y1626.1.Drop.length c1628, vi y1626.1.Floor] 29) :: (blk g1622 [.slice A1618 a1515.Add.length c1618, .slice A1619 a1515.Drop.length c1619, vi a1515.Floor] 29) :: (orow 29 3 (.slice A1494 l1494.length c1494) l1494.length d1494) :: Y) w) _)
            refine Any.takeE 0 rfl rfl rfl rfl (by kernel_rfl) (fun _ _ _ _ _ h => h) ((Ex.move rfl).s) ?_
            refine Any.take 0 2 rfl rfl rfl rfl rfl (by kernel_rfl) (fun _ _ _ _ _ h => h) (ExS.loadAgg [.slice A1618 a1515.Add.length c1618, .slice A1619 a1515.Drop.length c1619, vi a1515.Floor] rfl Try.underlying29 rfl sz29 rfl (fun w hS => by obtain ⟨_, _, _, hs⟩ := hS; exact hs.cells (i := 2) rfl 0 3)) hS0 ?_
            refine Any.all [1, 3] (by kernel_rfl) rfl (fun i hi => ?_)
            simp only [List.mem_cons, List.not_mem_nil, or_false] at hi
            rcases hi with rfl | rfl
            · skip
              refine ⟨_, rfl, rfl, One.of_ops rfl ?_⟩
              refine Ops.str8 (f1625.at_ hst1651) rfl Try.underlying30 Try.underlying5 Try.underlying9 rfl (Ops.stop ?_)
              have hS0 := (⟨_, _, (Le.refl _), (St.up (St.up (St.up (St.up hst1651 3 rfl) 3 rfl) 3 rfl) 3 rfl)⟩ : (fun w => ∃ ζ Y, Le z1626 ζ ∧ Ht w0 (frz ζ :: (blk g1631 [.slice A1627 y1626.1.Add.length c1627, .slice A1628 y1626.1.Drop.length c1628, vi y1626.1.Floor] 29) :: (blk g1622 [.slice A1618 a1515.Add.length c1618, .slice A1619 a1515.Drop.length c1619, vi a1515.Floor] 29) :: (orow 29 3 (.slice A1494 l1494.length c1494) l1494.length d1494) :: Y) w) _)
              refine ⟨⟨.inr (fun _ => hS0), trivial⟩, ?_⟩
              obtain ⟨y1652, hy1652, hf⟩ := bnd hf
              refine Any.one 3 (by kernel_rfl) rfl rfl (One.of_ops rfl ?_)
              refine Ops.call rfl rfl Try.func20 (by kernel_rfl) (by kernel_rfl) rfl (go_law10_bytes.walk (p0 := a1515) (hst := hst1651) (f1 := f1618) (f2 := f1619) (hf := hy1652)) ?_
              rintro _ w1652 ⟨z1652, rfl, hz1652, hst1652⟩
              refine ⟨_, rfl, Ops.stop ?_⟩
              replace f1618 := f1618.mono hz1652; replace f1619 := f1619.mono hz1652; replace f1625 := f1625.mono hz1652; replace f1627 := f1627.mono hz1652; replace f1628 := f1628.mono hz1652; replace f1494 := f1494.mono hz1652
              replace hy1617_0 := hy1617_0.trans hz1652
              replace hy1617_1 := hy1617_1.trans hz1652
              replace hy1617_2 := hy1617_2.trans hz1652
              replace hz1617 := hz1617.trans hz1652
              replace hm1648 := hm1648.trans hz1652
              have hS0 := (⟨_, _, hm1648, (St.up (St.up (St.up (St.up hst1652 3 rfl) 3 rfl) 3 rfl) 3 rfl)⟩ : (fun w => ∃ ζ Y, Le z1626 ζ ∧ Ht w0 (frz ζ :: (blk g1631 [.slice A1627 y1626.1.Add.length c1627, .slice A1628 y1626.1.Drop.length c1628, vi y1626.1.Floor] 29) :: (blk g1622 [.slice A1618 a1515.Add.length c1618, .slice A1619 a1515.Drop.length c1619, vi a1515.Floor] 29) :: (orow 29 3 (.slice A1494 l1494.length c1494) l1494.length d1494) :: Y) w) _)
              refine ⟨⟨.inr (fun _ => hS0), trivial⟩, ?_⟩
              refine Any.takeE 4 rfl rfl rfl rfl (by kernel_rfl) (fun _ _ _ _ _ h => h) ((Ex.neqT rfl rfl).s) ?_
              refine Any.takeE 5 rfl rfl rfl rfl (by kernel_rfl) (fun _ _ _ _ _ h => h) ((Ex.move rfl).s) ?_
              refine Any.case 104 rfl (fun hc => ?_) (fun hc => ?_)
              · replace hf := ifF (neq_T hc) hf
                refine Any.pass 6 rfl rfl rfl rfl (by kernel_rfl) (fun _ _ _ _ _ h => h) ?_
                refine Any.pass 7 rfl rfl rfl rfl (by kernel_rfl) (fun _ _ _ _ _ h => h) ?_
                refine Any.takeE 8 rfl rfl rfl rfl (by kernel_rfl) (fun _ _ _ _ _ h => h) ((Ex.pickT rfl rfl).s) ?_
                refine Any.takeE 9 rfl rfl rfl rfl (by kernel_rfl) (fun _ _ _ _ _ h => h) ((Ex.move rfl).s) ?_
                refine Any.pass 10 rfl rfl rfl rfl (by kernel_rfl) (fun _ _ _ _ _ h => h) ?_
                refine Any.pass 11 rfl rfl rfl rfl (by kernel_rfl) (fun _ _ _ _ _ h => h) ?_
                refine Any.pass 12 rfl rfl rfl rfl (by kernel_rfl) (fun _ _ _ _ _ h => h) ?_
                refine Any.pass 13 rfl rfl rfl rfl (by kernel_rfl) (fun _ _ _ _ _ h => h) ?_
                refine Any.pass 14 rfl rfl rfl rfl (by kernel_rfl) (fun _ _ _ _ _ h => h) ?_
                refine Any.takeE 15 rfl rfl rfl rfl (by kernel_rfl) (fun _ _ _ _ _ h => h) ((Ex.pickT rfl rfl).s) ?_
                refine Any.done (by kernel_rfl) ?_
                exact Run.sub (by exact subB_spec ⟨rfl, rfl, rfl, rfl, trivial⟩) (hj1633 _ _ ⟨true, z1652, hf, rfl, hm1648, hy1617_0, hy1617_1, hy1617_2, hz1617, (St.forget (St.forget hst1652 2) 1)⟩)
              · replace hf := ifT (neq_F hc) hf
                refine Any.takeE 6 rfl rfl rfl rfl (by kernel_rfl) (fun _ _ _ _ _ h => h) (ExS.g ((Ex.move rfl).s)) ?_
                refine Any.takeE 7 rfl rfl rfl rfl (by kernel_rfl) (fun _ _ _ _ _ h => h) (ExS.g ((Ex.not rfl).s)) ?_
                refine Any.takeE 8 rfl rfl rfl rfl (by kernel_rfl) (fun _ _ _ _ _ h => h) ((Ex.pickF rfl rfl).s) ?_
                refine Any.takeE 9 rfl rfl rfl rfl (by kernel_rfl) (fun _ _ _ _ _ h => h) ((Ex.move rfl).s) ?_
                refine Any.case 108 rfl (fun hc => ?_) (fun hc => ?_)
                · replace hf := ifFb (bn_T hc) hf
                  refine Any.pass 10 rfl rfl rfl rfl (by kernel_rfl) (fun _ _ _ _ _ h => h) ?_
                  refine Any.pass 11 rfl rfl rfl rfl (by kernel_rfl) (fun _ _ _ _ _ h => h) ?_
                  refine Any.pass 12 rfl rfl rfl rfl (by kernel_rfl) (fun _ _ _ _ _ h => h) ?_
                  refine Any.pass 13 rfl rfl rfl rfl (by kernel_rfl) (fun _ _ _ _ _ h => h) ?_
                  refine Any.pass 14 rfl rfl rfl rfl (by kernel_rfl) (fun _ _ _ _ _ h => h) ?_
                  refine Any.takeE 15 rfl rfl rfl rfl (by kernel_rfl) (fun _ _ _ _ _ h => h) ((Ex.pickT rfl rfl).s) ?_
                  refine Any.done (by kernel_rfl) ?_
                  exact Run.sub (by exact subB_spec ⟨rfl, rfl, rfl, rfl, trivial⟩) (hj1633 _ _ ⟨true, z1652, hf, rfl, hm1648, hy1617_0, hy1617_1, hy1617_2, hz1617, (St.forget (St.forget hst1652 2) 1)⟩)
                · replace hf := ifTb (bn_F hc) hf
                  refine Any.take 0 10 rfl rfl rfl rfl rfl (by kernel_rfl) (fun _ _ _ _ _ h => h) (ExS.g (ExS.loadAgg [.slice A1627 y1626.1.Add.length c1627, .slice A1628 y1626.1.Drop.length c1628, vi y1626.1.Floor] rfl Try.underlying29 rfl sz29 rfl (fun w hS => by obtain ⟨_, _, _, hs⟩ := hS; exact hs.cells (i := 1) rfl 0 3))) hS0 ?_
                  refine Any.take 0 12 rfl rfl rfl rfl rfl (by kernel_rfl) (fun _ _ _ _ _ h => h) (ExS.g (ExS.loadAgg [.slice A1618 a1515.Add.length c1618, .slice A1619 a1515.Drop.length c1619, vi a1515.Floor] rfl Try.underlying29 rfl sz29 rfl (fun w hS => by obtain ⟨_, _, _, hs⟩ := hS; exact hs.cells (i := 2) rfl 0 3))) hS0 ?_
                  obtain ⟨y1654, hy1654, hf⟩ := bnd hf
                  refine Any.one 11 (by kernel_rfl) rfl rfl (One.g <| One.of_ops rfl ?_)
                  refine Ops.call rfl rfl Try.func20 (by kernel_rfl) (by kernel_rfl) rfl (go_law10_bytes.walk (p0 := y1626.1) (hst := hst1652) (f1 := f1627) (f2 := f1628) (hf := hy1654)) ?_
                  rintro _ w1654 ⟨z1654, rfl, hz1654, hst1654⟩
                  refine ⟨_, rfl, Ops.stop ?_⟩
                  replace f1618 := f1618.mono hz1654; replace f1619 := f1619.mono hz1654; replace f1625 := f1625.mono hz1654; replace f1627 := f1627.mono hz1654; replace f1628 := f1628.mono hz1654; replace f1494 := f1494.mono hz1654
                  replace hy1617_0 := hy1617_0.trans hz1654
                  replace hy1617_1 := hy1617_1.trans hz1654
                  replace hy1617_2 := hy1617_2.trans hz1654
                  replace hz1617 := hz1617.trans hz1654
                  replace hm1648 := hm1648.trans hz1654
                  have hS0 := (⟨_, _, hm1648, (St.up (St.up (St.up (St.up hst1654 3 rfl) 3 rfl) 3 rfl) 3 rfl)⟩ : (fun w => ∃ ζ Y, Le z1626 ζ ∧ Ht w0 (frz ζ :: (blk g1631 [.slice A1627 y1626.1.Add.length c1627, .slice A1628 y1626.1.Drop.length c1628, vi y1626.1.Floor] 29) :: (blk g1622 [.slice A1618 a1515.Add.length c1618, .slice A1619 a1515.Drop.length c1619, vi a1515.Floor] 29) :: (orow 29 3 (.slice A1494 l1494.length c1494) l1494.length d1494) :: Y) w) _)
                  refine ⟨⟨.inr (fun _ => hS0), trivial⟩, ?_⟩
                  obtain ⟨y1656, hy1656, hf⟩ := bnd hf
                  refine Any.one 13 (by kernel_rfl) rfl rfl (One.g <| One.of_ops rfl ?_)
                  refine Ops.call rfl rfl Try.func20 (by kernel_rfl) (by kernel_rfl) rfl (go_law10_bytes.walk (p0 := a1515) (hst := hst1654) (f1 := f1618) (f2 := f1619) (hf := hy1656)) ?_
                  rintro _ w1656 ⟨z1656, rfl, hz1656, hst1656⟩
                  refine ⟨_, rfl, Ops.stop ?_⟩
                  replace f1618 := f1618.mono hz1656; replace f1619 := f1619.mono hz1656; replace f1625 := f1625.mono hz1656; replace f1627 := f1627.mono hz1656; replace f1628 := f1628.mono hz1656; replace f1494 := f1494.mono hz1656
                  replace hy1617_0 := hy1617_0.trans hz1656
                  replace hy1617_1 := hy1617_1.trans hz1656
                  replace hy1617_2 := hy1617_2.trans hz1656
                  replace hz1617 := hz1617.trans hz1656
                  replace hm1648 := hm1648.trans hz1656
                  have hS0 := (⟨_, _, hm1648, (St.up (St.up (St.up (St.up hst1656 3 rfl) 3 rfl) 3 rfl) 3 rfl)⟩ : (fun w => ∃ ζ Y, Le z1626 ζ ∧ Ht w0 (frz ζ :: (blk g1631 [.slice A1627 y1626.1.Add.length c1627, .slice A1628 y1626.1.Drop.length c1628, vi y1626.1.Floor] 29) :: (blk g1622 [.slice A1618 a1515.Add.length c1618, .slice A1619 a1515.Drop.length c1619, vi a1515.Floor] 29) :: (orow 29 3 (.slice A1494 l1494.length c1494) l1494.length d1494) :: Y) w) _)
                  refine ⟨⟨.inr (fun _ => hS0), trivial⟩, ?_⟩
                  refine Any.takeE 14 rfl rfl rfl rfl (by kernel_rfl) (fun _ _ _ _ _ h => h) (ExS.g ((Ex.neqT rfl rfl).s)) ?_
                  refine Any.takeE 15 rfl rfl rfl rfl (by kernel_rfl) (fun _ _ _ _ _ h => h) ((Ex.pickF rfl rfl).s) ?_
                  refine Any.done (by kernel_rfl) ?_
                  exact Run.sub (by exact subB_spec ⟨rfl, rfl, rfl, rfl, trivial⟩) (hj1633 _ _ ⟨!(decide (y1654 = y1656)), z1656, hf, rfl, hm1648, hy1617_0, hy1617_1, hy1617_2, hz1617, (St.forget (St.forget hst1656 2) 1)⟩)
            · skip
              obtain ⟨y1658, hy1658, hf⟩ := bnd hf
              refine ⟨_, rfl, rfl, One.of_ops rfl ?_⟩
              refine Ops.call rfl rfl Try.func20 (by kernel_rfl) (by kernel_rfl) rfl (go_law10_bytes.walk (p0 := a1515) (hst := hst1651) (f1 := f1618) (f2 := f1619) (hf := hy1658)) ?_
              rintro _ w1658 ⟨z1658, rfl, hz1658, hst1658⟩
              refine ⟨_, rfl, Ops.stop ?_⟩
              replace f1618 := f1618.mono hz1658; replace f1619 := f1619.mono hz1658; replace f1625 := f1625.mono hz1658; replace f1627 := f1627.mono hz1658; replace f1628 := f1628.mono hz1658; replace f1494 := f1494.mono hz1658
              replace hy1617_0 := hy1617_0.trans hz1658
              replace hy1617_1 := hy1617_1.trans hz1658
              replace hy1617_2 := hy1617_2.trans hz1658
              replace hz1617 := hz1617.trans hz1658
              replace hm1648 := hm1648.trans hz1658
              have hS0 := (⟨_, _, hm1648, (St.up (St.up (St.up (St.up hst1658 3 rfl) 3 rfl) 3 rfl) 3 rfl)⟩ : (fun w => ∃ ζ Y, Le z1626 ζ ∧ Ht w0 (frz ζ :: (blk g1631 [.slice A1627 y1626.1.Add.length c1627, .slice A1628 y1626.1.Drop.length c1628, vi y1626.1.Floor] 29) :: (blk g1622 [.slice A1618 a1515.Add.length c1618, .slice A1619 a1515.Drop.length c1619, vi a1515.Floor] 29) :: (orow 29 3 (.slice A1494 l1494.length c1494) l1494.length d1494) :: Y) w) _)
              refine ⟨⟨.inr (fun _ => hS0), trivial⟩, ?_⟩
              refine Any.one 1 (by kernel_rfl) rfl rfl (One.of_ops rfl ?_)
              refine Ops.str8 (f1625.at_ hst1658) rfl Try.underlying30 Try.underlying5 Try.underlying9 rfl (Ops.stop ?_)
              have hS0 := (⟨_, _, hm1648, (St.up (St.up (St.up (St.up hst1658 3 rfl) 3 rfl) 3 rfl) 3 rfl)⟩ : (fun w => ∃ ζ Y, Le z1626 ζ ∧ Ht w0 (frz ζ :: (blk g1631 [.slice A1627 y1626.1.Add.length c1627, .slice A1628 y1626.1.Drop.length c1628, vi y1626.1.Floor] 29) :: (blk g1622 [.slice A1618 a1515.Add.length c1618, .slice A1619 a1515.Drop.length c1619, vi a1515.Floor] 29) :: (orow 29 3 (.slice A1494 l1494.length c1494) l1494.length d1494) :: Y) w) _)
              refine ⟨⟨.inr (fun _ => hS0), trivial⟩, ?_⟩
              refine Any.takeE 4 rfl rfl rfl rfl (by kernel_rfl) (fun _ _ _ _ _ h => h) ((Ex.neqT rfl rfl).s) ?_
              refine Any.takeE 5 rfl rfl rfl rfl (by kernel_rfl) (fun _ _ _ _ _ h => h) ((Ex.move rfl).s) ?_
              refine Any.case 104 rfl (fun hc => ?_) (fun hc => ?_)
              · replace hf := ifF (neq_T hc) hf
                refine Any.pass 6 rfl rfl rfl rfl (by kernel_rfl) (fun _ _ _ _ _ h => h) ?_
                refine Any.pass 7 rfl rfl rfl rfl (by kernel_rfl) (fun _ _ _ _ _ h => h) ?_
                refine Any.takeE 8 rfl rfl rfl rfl (by kernel_rfl) (fun _ _ _ _ _ h => h) ((Ex.pickT rfl rfl).s) ?_
                refine Any.takeE 9 rfl rfl rfl rfl (by kernel_rfl) (fun _ _ _ _ _ h => h) ((Ex.move rfl).s) ?_
                refine Any.pass 10 rfl rfl rfl rfl (by kernel_rfl) (fun _ _ _ _ _ h => h) ?_
                refine Any.pass 11 rfl rfl rfl rfl (by kernel_rfl) (fun _ _ _ _ _ h => h) ?_
                refine Any.pass 12 rfl rfl rfl rfl (by kernel_rfl) (fun _ _ _ _ _ h => h) ?_
                refine Any.pass 13 rfl rfl rfl rfl (by kernel_rfl) (fun _ _ _ _ _ h => h) ?_
                refine Any.pass 14 rfl rfl rfl rfl (by kernel_rfl) (fun _ _ _ _ _ h => h) ?_
                refine Any.takeE 15 rfl rfl rfl rfl (by kernel_rfl) (fun _ _ _ _ _ h => h) ((Ex.pickT rfl rfl).s) ?_
                refine Any.done (by kernel_rfl) ?_
                exact Run.sub (by exact subB_spec ⟨rfl, rfl, rfl, rfl, trivial⟩) (hj1633 _ _ ⟨true, z1658, hf, rfl, hm1648, hy1617_0, hy1617_1, hy1617_2, hz1617, (St.forget (St.forget hst1658 2) 1)⟩)
              · replace hf := ifT (neq_F hc) hf
                refine Any.takeE 6 rfl rfl rfl rfl (by kernel_rfl) (fun _ _ _ _ _ h => h) (ExS.g ((Ex.move rfl).s)) ?_
                refine Any.takeE 7 rfl rfl rfl rfl (by kernel_rfl) (fun _ _ _ _ _ h => h) (ExS.g ((Ex.not rfl).s)) ?_
                refine Any.takeE 8 rfl rfl rfl rfl (by kernel_rfl) (fun _ _ _ _ _ h => h) ((Ex.pickF rfl rfl).s) ?_
                refine Any.takeE 9 rfl rfl rfl rfl (by kernel_rfl) (fun _ _ _ _ _ h => h) ((Ex.move rfl).s) ?_
                refine Any.case 108 rfl (fun hc => ?_) (fun hc => ?_)
                · replace hf := ifFb (bn_T hc) hf
                  refine Any.pass 10 rfl rfl rfl rfl (by kernel_rfl) (fun _ _ _ _ _ h => h) ?_
                  refine Any.pass 11 rfl rfl rfl rfl (by kernel_rfl) (fun _ _ _ _ _ h => h) ?_
                  refine Any.pass 12 rfl rfl rfl rfl (by kernel_rfl) (fun _ _ _ _ _ h => h) ?_
                  refine Any.pass 13 rfl rfl rfl rfl (by kernel_rfl) (fun _ _ _ _ _ h => h) ?_
                  refine Any.pass 14 rfl rfl rfl rfl (by kernel_rfl) (fun _ _ _ _ _ h => h) ?_
                  refine Any.takeE 15 rfl rfl rfl rfl (by kernel_rfl) (fun _ _ _ _ _ h => h) ((Ex.pickT rfl rfl).s) ?_
                  refine Any.done (by kernel_rfl) ?_
                  exact Run.sub (by exact subB_spec ⟨rfl, rfl, rfl, rfl, trivial⟩) (hj1633 _ _ ⟨true, z1658, hf, rfl, hm1648, hy1617_0, hy1617_1, hy1617_2, hz1617, (St.forget (St.forget hst1658 2) 1)⟩)
                · replace hf := ifTb (bn_F hc) hf
                  refine Any.take 0 10 rfl rfl rfl rfl rfl (by kernel_rfl) (fun _ _ _ _ _ h => h) (ExS.g (ExS.loadAgg [.slice A1627 y1626.1.Add.length c1627, .slice A1628 y1626.1.Drop.length c1628, vi y1626.1.Floor] rfl Try.underlying29 rfl sz29 rfl (fun w hS => by obtain ⟨_, _, _, hs⟩ := hS; exact hs.cells (i := 1) rfl 0 3))) hS0 ?_
                  refine Any.take 0 12 rfl rfl rfl rfl rfl (by kernel_rfl) (fun _ _ _ _ _ h => h) (ExS.g (ExS.loadAgg [.slice A1618 a1515.Add.length c1618, .slice A1619 a1515.Drop.length c1619, vi a1515.Floor] rfl Try.underlying29 rfl sz29 rfl (fun w hS => by obtain ⟨_, _, _, hs⟩ := hS; exact hs.cells (i := 2) rfl 0 3))) hS0 ?_
                  obtain ⟨y1660, hy1660, hf⟩ := bnd hf
                  refine Any.one 11 (by kernel_rfl) rfl rfl (One.g <| One.of_ops rfl ?_)
                  refine Ops.call rfl rfl Try.func20 (by kernel_rfl) (by kernel_rfl) rfl (go_law10_bytes.walk (p0 := y1626.1) (hst := hst1658) (f1 := f1627) (f2 := f1628) (hf := hy1660)) ?_
                  rintro _ w1660 ⟨z1660, rfl, hz1660, hst1660⟩
                  refine ⟨_, rfl, Ops.stop ?_⟩
                  replace f1618 := f1618.mono hz1660; replace f1619 := f1619.mono hz1660; replace f1625 := f1625.mono hz1660; replace f1627 := f1627.mono hz1660; replace f1628 := f1628.mono hz1660; replace f1494 := f1494.mono hz1660
                  replace hy1617_0 := hy1617_0.trans hz1660
                  replace hy1617_1 := hy1617_1.trans hz1660
                  replace hy1617_2 := hy1617_2.trans hz1660
                  replace hz1617 := hz1617.trans hz1660
                  replace hm1648 := hm1648.trans hz1660
                  have hS0 := (⟨_, _, hm1648, (St.up (St.up (St.up (St.up hst1660 3 rfl) 3 rfl) 3 rfl) 3 rfl)⟩ : (fun w => ∃ ζ Y, Le z1626 ζ ∧ Ht w0 (frz ζ :: (blk g1631 [.slice A1627 y1626.1.Add.length c1627, .slice A1628 y1626.1.Drop.length c1628, vi y1626.1.Floor] 29) :: (blk g1622 [.slice A1618 a1515.Add.length c1618, .slice A1619 a1515.Drop.length c1619, vi a1515.Floor] 29) :: (orow 29 3 (.slice A1494 l1494.length c1494) l1494.length d1494) :: Y) w) _)
                  refine ⟨⟨.inr (fun _ => hS0), trivial⟩, ?_⟩
                  obtain ⟨y1662, hy1662, hf⟩ := bnd hf
                  refine Any.one 13 (by kernel_rfl) rfl rfl (One.g <| One.of_ops rfl ?_)
                  refine Ops.call rfl rfl Try.func20 (by kernel_rfl) (by kernel_rfl) rfl (go_law10_bytes.walk (p0 := a1515) (hst := hst1660) (f1 := f1618) (f2 := f1619) (hf := hy1662)) ?_
                  rintro _ w1662 ⟨z1662, rfl, hz1662, hst1662⟩
                  refine ⟨_, rfl, Ops.stop ?_⟩
                  replace f1618 := f1618.mono hz1662; replace f1619 := f1619.mono hz1662; replace f1625 := f1625.mono hz1662; replace f1627 := f1627.mono hz1662; replace f1628 := f1628.mono hz1662; replace f1494 := f1494.mono hz1662
                  replace hy1617_0 := hy1617_0.trans hz1662
                  replace hy1617_1 := hy1617_1.trans hz1662
                  replace hy1617_2 := hy1617_2.trans hz1662
                  replace hz1617 := hz1617.trans hz1662
                  replace hm1648 := hm1648.trans hz1662
                  have hS0 := (⟨_, _, hm1648, (St.up (St.up (St.up (St.up hst1662 3 rfl) 3 rfl) 3 rfl) 3 rfl)⟩ : (fun w => ∃ ζ Y, Le z1626 ζ ∧ Ht w0 (frz ζ :: (blk g1631 [.slice A1627 y1626.1.Add.length c1627, .slice A1628 y1626.1.Drop.length c1628, vi y1626.1.Floor] 29) :: (blk g1622 [.slice A1618 a1515.Add.length c1618, .slice A1619 a1515.Drop.length c1619, vi a1515.Floor] 29) :: (orow 29 3 (.slice A1494 l1494.length c1494) l1494.length d1494) :: Y) w) _)
                  refine ⟨⟨.inr (fun _ => hS0), trivial⟩, ?_⟩
                  refine Any.takeE 14 rfl rfl rfl rfl (by kernel_rfl) (fun _ _ _ _ _ h => h) (ExS.g ((Ex.neqT rfl rfl).s)) ?_
                  refine Any.takeE 15 rfl rfl rfl rfl (by kernel_rfl) (fun _ _ _ _ _ h => h) ((Ex.pickF rfl rfl).s) ?_
                  refine Any.done (by kernel_rfl) ?_
                  exact Run.sub (by exact subB_spec ⟨rfl, rfl, rfl, rfl, trivial⟩) (hj1633 _ _ ⟨!(decide (y1660 = y1662)), z1662, hf, rfl, hm1648, hy1617_0, hy1617_1, hy1617_2, hz1617, (St.forget (St.forget hst1662 2) 1)⟩)
          · rintro e' w1664 ⟨b1650, z1649, hf, rfl, hz1664, hy1664_0, hy1664_1, hy1664_2, hy1664_3, hst1664⟩
            replace f1494 := f1494.mono hz1664
            unfold go_law10_EditsBytes.j1 at hf
            refine Run.cond rfl (fun hc => ?_) (fun hc => ?_)
            · replace hf := ifTb hc hf
              refine Run.seq ?_
              refine Run.region ?_
              refine Ops.ex (Ex.assign rfl) rfl rfl rfl ?_
              refine Ops.nil ?_
              obtain rfl := Option.some.inj hf
              exact Run.retV [vb false] rfl ⟨rfl, trivial⟩ ⟨z1649, rfl, hy1664_0, (St.forget hst1664 1)⟩
            · replace hf := ifFb hc hf
              refine Run.skip ?_
              refine Run.endBlk ?_
              refine Run.region ?_
              refine Ops.ex (Ex.add rfl rfl) rfl rfl rfl ?_
              refine Ops.ex (Ex.move rfl) rfl rfl rfl ?_
              refine Ops.nil ?_
              refine Run.re 88 rfl (congrArg vi (wr_succ' hl1515 hc1515)) ?_
              exact Run.sub (by exact subB_spec ⟨rfl, rfl, rfl, trivial⟩) (Run.stop ⟨l1494.length - (i1515 + 1), by omega, i1515 + 1, z1649, rfl, by omega, (hnxb1515 _).symm.trans hf, rfl, hy1664_3, hy1664_0, hy1664_1, hy1664_2, hst1664⟩)
        · replace hf := forL_out hf (nlt_of_dec hc)
          try dsimp only at hf
          refine Run.exit _ rfl ?_
          refine Run.seq ?_
          refine Run.region ?_
          refine Ops.ex (Ex.assign rfl) rfl rfl rfl ?_
          refine Ops.nil ?_
          obtain rfl := Option.some.inj hf
          exact Run.retV [vb true] rfl ⟨rfl, trivial⟩ ⟨z1616, rfl, hy1617_0, (St.forget hst1617 1)⟩
def go_law10_EditsRead.j1 (nxb285 : Unit → Option Bool) (b362 : Bool) : Option Bool :=
  if b362 then (some false) else (nxb285 ())
def go_law10_EditsRead.b2 (i285 : Nat) (a285 : List UInt8) : Unit → (Unit → Option Bool) → Option Bool :=
  fun _ nxb285 => (go_edits_Read a285).bind fun y346 => if y346.2 then ((go_law10_bytes y346.1).bind fun y364 => if y364 = a285 then (if y346.2 then (go_law10_EditsRead.j1 nxb285 false) else (if y346.1.Floor = 0 then (if (y346.1.Add.length : Int) = 0 then (go_law10_EditsRead.j1 nxb285 (!(decide ((y346.1.Drop.length : Int) = 0)))) else (go_law10_EditsRead.j1 nxb285 true)) else (go_law10_EditsRead.j1 nxb285 true))) else (go_law10_EditsRead.j1 nxb285 true)) else (if y346.2 then (go_law10_EditsRead.j1 nxb285 false) else (if y346.1.Floor = 0 then (if (y346.1.Add.length : Int) = 0 then (go_law10_EditsRead.j1 nxb285 (!(decide ((y346.1.Drop.length : Int) = 0)))) else (go_law10_EditsRead.j1 nxb285 true)) else (go_law10_EditsRead.j1 nxb285 true)))
def go_law10_EditsRead.b1 (p2 : UInt16) (p3 : UInt8) (i9 : Nat) (a9 : law10Step) : (List (List UInt8)) → (List (List UInt8) → Option Bool) → Option Bool :=
  fun l251 nxb9 => (go_law10_Step_Edit a9).bind fun y264 => (go_edits_Bytes y264).bind fun y268 => if (y268.length : Int) = 0 then (some false) else ((apB 1 [] y268).bind fun l270 => (nzI (l270.length : Int)).bind fun _ => (atI l270 (Int.tmod (p2.toNat : Int) (l270.length : Int))).bind fun y274 => (putI l270 (Int.tmod (p2.toNat : Int) (l270.length : Int)) (y274 ^^^ p3)).bind fun l279 => (nzI (y268.length : Int)).bind fun _ => (cutI y268 0 (Int.tmod (p2.toNat : Int) (y268.length : Int))).bind fun l281 => (apB 24 l251 [l279, l281]).bind fun l284 => nxb9 l284)
def go_law10_EditsRead (p0 : List UInt8) (p1 : List law10Step) (p2 : UInt16) (p3 : UInt8) : Option Bool :=
  (go_law10_awake).bind fun y5 => if y5 then ((cutI p1 0 (min (p1.length : Int) 20)).bind fun l8 => forL (go_law10_EditsRead.b1 p2 p3) (fun l251 => forL (go_law10_EditsRead.b2) (fun _ => some true) 0 l251 ()) 0 l8 [p0]) else (some false)
set_option maxRecDepth 100000 in
set_option maxHeartbeats 4000000 in
theorem go_law10_EditsRead.walk {w0 w : World} {X : List Res} {z0 : Zp} {p0 : List UInt8} {A1 : Option Addr} {c1 : Nat} {p1 : List law10Step} {A2 : Option Addr} {c2 : Nat} {p2 : UInt16} {p3 : UInt8} {r : Bool} (hst : Ht w0 (frz z0 :: X) w) (f1 : Sl tU8 z0 A1 c1 p0) (f2 : Sl tlaw10Step z0 A2 c2 p1) (hf : go_law10_EditsRead p0 p1 p2 p3 = some r) :
    Calls Try.prog 8 #[.slice A1 p0.length c1, .slice A2 p1.length c2, vu16 p2, vu8 p3] w fun e w' => ∃ (z' : Zp), e = .returned (vb r) ∧ Le z0 z' ∧ Ht w0 (frz z' :: X) w' := by
  refine calls_np Try.func8 rfl rfl ?_
  have hle0 := Le.refl z0
  unfold go_law10_EditsRead at hf
  refine Run.seq ?_
  refine Run.region ?_
  refine Ops.ex (Ex.assign rfl) rfl rfl rfl ?_
  refine Ops.nil ?_
  refine Run.seq ?_
  refine Run.seq ?_
  refine Run.region ?_
  obtain ⟨y5, hy5, hf⟩ := bnd hf
  refine Ops.call rfl rfl Try.func11 (by kernel_rfl) (by kernel_rfl) rfl (go_law10_awake.walk (hst := hst) (hf := hy5)) ?_
  rintro _ w5 ⟨z5, rfl, hz5, hst5⟩
  refine ⟨_, rfl, ?_⟩
  replace f1 := f1.mono hz5; replace f2 := f2.mono hz5
  replace hle0 := hle0.trans hz5
  refine Ops.ex (Ex.not rfl) rfl rfl rfl ?_
  refine Ops.nil ?_
  refine Run.cond rfl (fun hc => ?_) (fun hc => ?_)
  · replace hf := ifFb (bn_T hc) hf
    refine Run.seq ?_
    refine Run.region ?_
    refine Ops.ex (Ex.assign rfl) rfl rfl rfl ?_
    refine Ops.nil ?_
    obtain rfl := Option.some.inj hf
    exact Run.retV [vb false] rfl ⟨rfl, trivial⟩ ⟨z5, rfl, hle0, hst5⟩
  · replace hf := ifTb (bn_F hc) hf
    refine Run.skip ?_
    refine Run.seq ?_
    refine Run.region ?_
    refine Ops.ex (Ex.move rfl) rfl rfl rfl ?_
    refine Ops.sliceF [.slice A1 p0.length c1] hst5 rfl Try.underlying53 sz30 zr30 rfl rfl (by kernel_rfl) rfl (by simp [Value.oneCell']) rfl (fun A7 w7 hst7 => ?_)
    have f7 : Cs (tSl tU8) z5 [.slice A1 p0.length c1] [p0] := (Cs.cons (c := [.slice A1 p0.length c1]) ⟨_, _, rfl, f1⟩ (Cs.nil _ _))
    refine Ops.ex (Ex.assign rfl) rfl rfl rfl ?_
    refine Ops.nil ?_
    refine Run.seq ?_
    refine Run.seq ?_
    refine Run.region ?_
    refine Ops.ex (Ex.move rfl) rfl rfl rfl ?_
    refine Ops.ex (Ex.move rfl) rfl rfl rfl ?_
    refine Ops.ex (Ex.len' rfl rfl rfl Try.underlying36) rfl rfl rfl ?_
    refine Ops.ex (Ex.min2 rfl rfl rfl) rfl rfl rfl ?_
    obtain ⟨l8, hy8, hf⟩ := bnd hf
    obtain ⟨A8, c8, hA8, hB8, f8⟩ := SlH.sub f2.toH hy8
    replace f8 := f8.toS
    refine Ops.ex (Ex.subA hA8 hB8 hy8 rfl rfl Try.underlying36 sz32 rfl rfl) rfl rfl rfl ?_
    refine Ops.ex (Ex.len' rfl rfl rfl Try.underlying36) rfl rfl rfl ?_
    refine Ops.ex (Ex.move rfl) rfl rfl rfl ?_
    refine Ops.nil ?_
    refine Run.block ?_
    have hc9 := f8.cap
    have hm10 := Le.refl z5
    refine Run.sub (e' := [(2, vu16 p2), (3, vu8 p3), (9, .slice A7 [p0].length 1), (26, .slice A8 l8.length c8), (27, vi (l8.length : Int)), (28, vi ((0 : Nat) : Int))]) (subB_spec ⟨rfl, rfl, rfl, rfl, rfl, rfl, trivial⟩) ?_
    refine Run.loop (fun mb9 => (fun e' w' => ∃ (i9 : Nat) (l251 : List (List UInt8)) (A251 : Option Addr) (c251 : Nat) (d251 : List Value) (z250 : Zp), mb9 = l8.length - i9 ∧ i9 ≤ l8.length ∧ forL (go_law10_EditsRead.b1 p2 p3) (fun l251 => forL (go_law10_EditsRead.b2) (fun _ => some true) 0 l251 ()) i9 (l8.drop i9) l251 = some r ∧ e' = [(2, vu16 p2), (3, vu8 p3), (9, .slice A251 l251.length c251), (26, .slice A8 l8.length c8), (27, vi (l8.length : Int)), (28, vi (i9 : Int))] ∧ Le z5 z250 ∧ Le z0 z250 ∧ Cs (tSl tU8) z250 d251 l251 ∧ Ht w0 (frz z250 :: (orow 30 1 (.slice A251 l251.length c251) l251.length d251) :: X) w')) l8.length ⟨0, [p0], A7, 1, [.slice A1 p0.length c1], z5, rfl, Nat.zero_le _, hf, rfl, hm10, hle0, f7, hst7⟩ ?_
    rintro _ e' w252 ⟨i9, l251, A251, c251, d251, z250, rfl, hi9, hf, rfl, hz252, hy252_0, f251, hst252⟩
    replace f8 := f8.mono hz252
    refine Run.seq ?_
    refine Run.region ?_
    refine Ops.ex (Ex.lss rfl rfl) rfl rfl rfl ?_
    refine Ops.nil ?_
    refine Run.seq ?_
    refine Run.cond rfl (fun hc => ?_) (fun hc => ?_)
    · have hl9 := lt_of_dec hc
      obtain ⟨a9, nxb9, ha9, hnxb9, hf⟩ := forL_in hf hl9
      unfold go_law10_EditsRead.b1 at hf
      try dsimp only at hf
      refine Run.skip ?_
      refine Run.seq ?_
      refine Run.block ?_
      refine Run.seq ?_
      refine Run.region ?_
      obtain ⟨g261, p261, o261, cs261, hA261, ho261, hr261, f261⟩ := SlH.elem f8.toH (atI_nat ha9)
      obtain ⟨A253, c253, A254, c254, rfl, f253, f254⟩ := hr261
      refine Ops.ex (Ex.ixA hA261 ho261 (atI_nat ha9) rfl rfl rfl Try.underlying36 sz32) rfl rfl rfl ?_
      refine Ops.loadAgg [.slice A253 a9.Add.length c253, .slice A254 a9.Drop.length c254, vu8 a9.Floor, vb a9.Odd, vs a9.Any.Name, vi a9.Any.Kind, vi a9.Any.From, vi a9.Any.To] rfl Try.underlying32 rfl sz32 rfl (cells_of_zc rfl (f261.mono hst252.le)) rfl ?_
      refine Ops.allocF [.slice none 0 0, .slice none 0 0, vu8 0, vb false, vs [], vi 0, vi 0, vi 0] hst252 zr32 rfl rfl (fun g262 w262 hst262 => ?_)
      refine Ops.store 1 [.slice A253 a9.Add.length c253, .slice A254 a9.Drop.length c254, vu8 a9.Floor, vb a9.Odd, vs a9.Any.Name, vi a9.Any.Kind, vi a9.Any.From, vi a9.Any.To] hst262 rfl rfl rfl rfl sz32 rfl (by simp [Value.oneCell']) (by simp) (fun w263 hst263 => ?_)
      refine Ops.nil ?_
      refine Run.seq ?_
      refine Run.region ?_
      refine Ops.loadAgg _ rfl Try.underlying32 rfl sz32 rfl (hst263.cells (i := 1) rfl 0 8) rfl ?_
      obtain ⟨y264, hy264, hf⟩ := bnd hf
      refine Ops.call rfl rfl Try.func12 (by kernel_rfl) (by kernel_rfl) rfl (go_law10_Step_Edit.walk (p0 := a9) (hst := hst263) (f1 := f253) (f2 := f254) (hf := hy264)) ?_
      rintro _ w264 ⟨z264, A265, c265, A266, c266, rfl, hz264, f265, f266, hst264⟩
      refine ⟨_, rfl, ?_⟩
      replace f8 := f8.mono hz264; replace f261 := f261.mono hz264; replace f253 := f253.mono hz264; replace f254 := f254.mono hz264; replace f251 := f251.mono hz264
      replace hy252_0 := hy252_0.trans hz264
      replace hz252 := hz252.trans hz264
      obtain ⟨y268, hy268, hf⟩ := bnd hf
      refine Ops.call rfl rfl Try.func18 (by kernel_rfl) (by kernel_rfl) rfl (go_edits_Bytes.walk (p0 := y264) (hst := hst264) (f1 := f265) (f2 := f266) (hf := hy268)) ?_
      rintro _ w268 ⟨z268, A269, c269, rfl, hz268, f269, hst268⟩
      refine ⟨_, rfl, ?_⟩
      replace f8 := f8.mono hz268; replace f261 := f261.mono hz268; replace f253 := f253.mono hz268; replace f254 := f254.mono hz268; replace f265 := f265.mono hz268; replace f266 := f266.mono hz268; replace f251 := f251.mono hz268
      replace hy252_0 := hy252_0.trans hz268
      replace hz252 := hz252.trans hz268
      refine Ops.ex (Ex.assign rfl) rfl rfl rfl ?_
      refine Ops.nil ?_
      refine Run.seq ?_
      refine Run.seq ?_
      refine Run.region ?_
      refine Ops.ex (Ex.move rfl) rfl rfl rfl ?_
      refine Ops.ex (Ex.len' rfl rfl rfl Try.underlying30) rfl rfl rfl ?_
      refine Ops.ex (Ex.eqlI rfl rfl) rfl rfl rfl ?_
      refine Ops.nil ?_
      refine Run.cond rfl (fun hc => ?_) (fun hc => ?_)
      · replace hf := ifT (dec_T hc) hf
        refine Run.seq ?_
        refine Run.region ?_
        refine Ops.ex (Ex.assign rfl) rfl rfl rfl ?_
        refine Ops.nil ?_
        obtain rfl := Option.some.inj hf
        exact Run.retV [vb false] rfl ⟨rfl, trivial⟩ ⟨z268, rfl, hy252_0, (St.forget (St.forget hst268 2) 1)⟩
      · replace hf := ifF (dec_F hc) hf
        refine Run.skip ?_
        refine Run.seq ?_
        refine Run.region ?_
        refine Ops.ex (Ex.move rfl) rfl rfl rfl ?_
        have hst271 := hst268.row0 5 1
        obtain ⟨l270, hy270, hf⟩ := bnd hf
        refine Ops.app 1 hst271 rfl (Cs.nil tU8 z268) rfl (f269.at_ hst271) rfl hy270 rfl rfl rfl rfl Try.underlying30 inf5 rfl (by decide) (by decide) rfl (fun A270 c270 d270 w270 f270 hst270 => ?_)
        refine Ops.ex (Ex.assign rfl) rfl rfl rfl ?_
        refine Ops.nil ?_
        refine Run.seq ?_
        refine Run.region ?_
        refine Ops.ex (Ex.move rfl) rfl rfl rfl ?_
        refine Ops.ex (Ex.move rfl) rfl rfl rfl ?_
        refine Ops.ex (Ex.cu16 rfl Try.underlying52 Try.underlying3) rfl rfl rfl ?_
        refine Ops.ex (Ex.move rfl) rfl rfl rfl ?_
        refine Ops.ex (Ex.len' rfl rfl rfl Try.underlying30) rfl rfl rfl ?_
        obtain ⟨_, hy273, hf⟩ := bnd hf
        refine Ops.ex (Ex.rem rfl rfl (nzI_some hy273)) rfl rfl rfl ?_
        obtain ⟨y274, hy274, hf⟩ := bnd hf
        obtain ⟨g276, p276, o276, cs276, hA276, ho276, hr276, f276⟩ := own_elem f270 rfl (hst270.get (i := 1) rfl) hy274
        obtain rfl := hr276
        refine Ops.ex (Ex.ixA hA276 ho276 hy274 rfl rfl rfl Try.underlying30 sz5) rfl rfl rfl ?_
        refine Ops.load rfl Try.underlying5 rfl ((f276 _ (hst270.get (i := 1) rfl)) 0 _ rfl) rfl ?_
        refine Ops.ex (Ex.move rfl) rfl rfl rfl ?_
        refine Ops.ex (Ex.xor8 rfl rfl) rfl rfl rfl ?_
        obtain ⟨g278, p278, o278, cs278, hA278, ho278, hr278, f278⟩ := own_elem f270 rfl (hst270.get (i := 1) rfl) hy274
        obtain rfl := hr278
        refine Ops.ex (Ex.ixA hA278 ho278 hy274 rfl rfl rfl Try.underlying30 sz5) rfl rfl rfl ?_
        obtain ⟨l279, hy279, hf⟩ := bnd hf
        refine Ops.storeN (off := 0) (cs := [vu8 y274]) (cs' := [vu8 (y274 ^^^ p3)]) 1 hst270 rfl f270 rfl hA278 ho278 hy279 f278 rfl rfl rfl rfl rfl rfl sz5 rfl (by simp [Value.oneCell']) (by simp) (fun d279 w279 f279 hn279 hst279 => ?_)
        refine Ops.nil ?_
        refine Run.region ?_
        refine Ops.ex (Ex.move rfl) rfl rfl rfl ?_
        refine Ops.ex (Ex.move rfl) rfl rfl rfl ?_
        refine Ops.ex (Ex.move rfl) rfl rfl rfl ?_
        refine Ops.ex (Ex.move rfl) rfl rfl rfl ?_
        refine Ops.ex (Ex.cu16 rfl Try.underlying52 Try.underlying3) rfl rfl rfl ?_
        refine Ops.ex (Ex.move rfl) rfl rfl rfl ?_
        refine Ops.ex (Ex.len' rfl rfl rfl Try.underlying30) rfl rfl rfl ?_
        obtain ⟨_, hy280, hf⟩ := bnd hf
        refine Ops.ex (Ex.rem rfl rfl (nzI_some hy280)) rfl rfl rfl ?_
        obtain ⟨l281, hy281, hf⟩ := bnd hf
        obtain ⟨A281, c281, hA281, hB281, f281⟩ := SlH.sub f269.toH hy281
        replace f281 := f281.toS
        refine Ops.ex (Ex.subA hA281 hB281 hy281 rfl rfl Try.underlying30 sz5 rfl rfl) rfl rfl rfl ?_
        obtain ⟨z283, hz283, f283, hst283⟩ := St.freeze (τ := tU8) (xs := l279) hst279 f279 hn279
        replace f8 := f8.mono hz283; replace f261 := f261.mono hz283; replace f253 := f253.mono hz283; replace f254 := f254.mono hz283; replace f265 := f265.mono hz283; replace f266 := f266.mono hz283; replace f269 := f269.mono hz283; replace f281 := f281.mono hz283; replace f251 := f251.mono hz283
        replace hy252_0 := hy252_0.trans hz283
        replace hz252 := hz252.trans hz283
        refine Ops.sliceF [.slice A270 l270.length c270, .slice A281 l281.length c281] hst283 rfl Try.underlying53 sz30 zr30 rfl rfl (by kernel_rfl) rfl (by simp [Value.oneCell']) rfl (fun A282 w282 hst282 => ?_)
        have f282 : Cs (tSl tU8) z283 [.slice A270 l270.length c270, .slice A281 l281.length c281] [l279, l281] := (Cs.cons (c := [.slice A270 l270.length c270]) ⟨_, _, (by simp [hn279]), f283⟩ (Cs.cons (c := [.slice A281 l281.length c281]) ⟨_, _, rfl, f281⟩ (Cs.nil _ _)))
        obtain ⟨l284, hy284, hf⟩ := bnd hf
        refine Ops.app 3 hst282 rfl f251 rfl (own_slh f282 rfl (hst282.get (i := 1) rfl)) rfl hy284 rfl rfl rfl rfl Try.underlying53 inf30 rfl (by decide) (by decide) rfl (fun A284 c284 d284 w284 f284 hst284 => ?_)
        refine Ops.ex (Ex.assign rfl) rfl rfl rfl ?_
        refine Ops.nil ?_
        refine Run.endBlk ?_
        refine Run.region ?_
        refine Ops.ex (Ex.add rfl rfl) rfl rfl rfl ?_
        refine Ops.ex (Ex.move rfl) rfl rfl rfl ?_
        refine Ops.nil ?_
        refine Run.re 28 rfl (congrArg vi (wr_succ' hl9 hc9)) ?_
        exact Run.sub (by exact subB_spec ⟨rfl, rfl, rfl, rfl, rfl, rfl, trivial⟩) (Run.stop ⟨l8.length - (i9 + 1), by omega, i9 + 1, l284, A284, c284, d284, z283, rfl, by omega, (hnxb9 _).symm.trans hf, rfl, hz252, hy252_0, f284, (St.forget (St.forget hst284 2) 1)⟩)
    · replace hf := forL_out hf (nlt_of_dec hc)
      try dsimp only at hf
      refine Run.exit _ rfl ?_
      refine Run.seq ?_
      refine Run.seq ?_
      refine Run.region ?_
      refine Ops.ex (Ex.move rfl) rfl rfl rfl ?_
      refine Ops.ex (Ex.len' rfl rfl rfl Try.underlying53) rfl rfl rfl ?_
      refine Ops.ex (Ex.move rfl) rfl rfl rfl ?_
      refine Ops.nil ?_
      refine Run.block ?_
      have hc285 := (own_slh f251 rfl (hst252.get (i := 1) rfl)).cap
      have hm286 := Le.refl z250
      refine Run.sub (e' := [(63, .slice A251 l251.length c251), (64, vi (l251.length : Int)), (65, vi ((0 : Nat) : Int))]) (subB_spec ⟨rfl, rfl, rfl, trivial⟩) ?_
      refine Run.loop (fun mb285 => (fun e' w' => ∃ (i285 : Nat) (z342 : Zp), mb285 = l251.length - i285 ∧ i285 ≤ l251.length ∧ forL (go_law10_EditsRead.b2) (fun _ => some true) i285 (l251.drop i285) () = some r ∧ e' = [(63, .slice A251 l251.length c251), (64, vi (l251.length : Int)), (65, vi (i285 : Int))] ∧ Le z250 z342 ∧ Le z0 z342 ∧ Le z5 z342 ∧ Ht w0 (frz z342 :: (orow 30 1 (.slice A251 l251.length c251) l251.length d251) :: X) w')) l251.length ⟨0, z250, rfl, Nat.zero_le _, hf, rfl, hm286, hy252_0, hz252, hst252⟩ ?_
      rintro _ e' w343 ⟨i285, z342, rfl, hi285, hf, rfl, hz343, hy343_0, hy343_1, hst343⟩
      replace f251 := f251.mono hz343
      refine Run.seq ?_
      refine Run.region ?_
      refine Ops.ex (Ex.lss rfl rfl) rfl rfl rfl ?_
      refine Ops.nil ?_
      refine Run.seq ?_
      refine Run.cond rfl (fun hc => ?_) (fun hc => ?_)
      · have hl285 := lt_of_dec hc
        obtain ⟨a285, nxb285, ha285, hnxb285, hf⟩ := forL_in hf hl285
        unfold go_law10_EditsRead.b2 at hf
        try dsimp only at hf
        refine Run.skip ?_
        refine Run.seq ?_
        refine Run.block ?_
        refine Run.seq ?_
        refine Run.region ?_
        obtain ⟨g345, p345, o345, cs345, hA345, ho345, hr345, f345⟩ := own_elem f251 rfl (hst343.get (i := 1) rfl) (atI_nat ha285)
        obtain ⟨A344, c344, rfl, f344⟩ := hr345
        refine Ops.ex (Ex.ixA hA345 ho345 (atI_nat ha285) rfl rfl rfl Try.underlying53 sz30) rfl rfl rfl ?_
        refine Ops.load rfl Try.underlying30 rfl ((f345 _ (hst343.get (i := 1) rfl)) 0 _ rfl) rfl ?_
        refine Ops.ex (Ex.assign rfl) rfl rfl rfl ?_
        refine Ops.nil ?_
        refine Run.seq ?_
        refine Run.region ?_
        refine Ops.ex (Ex.move rfl) rfl rfl rfl ?_
        obtain ⟨y346, hy346, hf⟩ := bnd hf
        refine Ops.call rfl rfl Try.func19 (by kernel_rfl) (by kernel_rfl) rfl (go_edits_Read.walk (p0 := a285) (hst := hst343) (f1 := f344) (hf := hy346)) ?_
        rintro _ w346 ⟨z346, A347, c347, A348, c348, rfl, hz346, f347, f348, hst346⟩
        refine ⟨_, rfl, ?_⟩
        replace f344 := f344.mono hz346; replace f251 := f251.mono hz346
        replace hy343_0 := hy343_0.trans hz346
        replace hy343_1 := hy343_1.trans hz346
        replace hz343 := hz343.trans hz346
        refine Ops.ex (Ex.move rfl) rfl rfl rfl ?_
        refine Ops.ex (Ex.extract rfl rfl) rfl rfl rfl ?_
        refine Ops.ex (Ex.extract rfl rfl) rfl rfl rfl ?_
        refine Ops.allocF [.slice none 0 0, .slice none 0 0, vi 0] hst346 zr29 rfl rfl (fun g351 w351 hst351 => ?_)
        refine Ops.store 1 [.slice A347 y346.1.Add.length c347, .slice A348 y346.1.Drop.length c348, vi y346.1.Floor] hst351 rfl rfl rfl rfl sz29 rfl (by simp [Value.oneCell']) (by simp) (fun w352 hst352 => ?_)
        refine Ops.ex (Ex.assign rfl) rfl rfl rfl ?_
        refine Ops.nil ?_
        refine Run.seq ?_
        have hm360 := Le.refl z346
        apply Run.jn (fun e' w' => ∃ (b362 : Bool) (z361 : Zp), go_law10_EditsRead.j1 nxb285 b362 = some r ∧ e' = [(63, .slice A251 l251.length c251), (64, vi (l251.length : Int)), (65, vi (i285 : Int)), (102, vb b362)] ∧ Le z346 z361 ∧ Le z0 z361 ∧ Le z5 z361 ∧ Le z250 z361 ∧ Ht w0 (frz z361 :: (orow 30 1 (.slice A251 l251.length c251) l251.length d251) :: X) w')
        · intro hj353
          refine Run.drawH [([], fun w => ∃ ζ Y, Le z346 ζ ∧ Ht w0 (frz ζ :: (blk g351 [.slice A347 y346.1.Add.length c347, .slice A348 y346.1.Drop.length c348, vi y346.1.Floor] 29) :: (orow 30 1 (.slice A251 l251.length c251) l251.length d251) :: Y) w)] (by kernel_rfl) hst352 (fun w363 hst363 => ?_)
          have hS0 := (⟨_, _, (Le.refl _), (St.up (St.up (St.up hst363 2 rfl) 2 rfl) 2 rfl)⟩ : (fun w => ∃ ζ Y, Le z346 ζ ∧ Ht w0 (frz ζ :: (blk g351 [.slice A347 y346.1.Add.length c347, .slice A348 y346.1.Drop.length c348, vi y346.1.Floor] 29) :: (orow 30 1 (.slice A251 l251.length c251) l251.length d251) :: Y) w) _)
          refine Any.takeE 0 rfl rfl rfl rfl (by kernel_rfl) (fun _ _ _ _ _ h => h) ((Ex.move rfl).s) ?_
          refine Any.takeE 1 rfl rfl rfl rfl (by kernel_rfl) (fun _ _ _ _ _ h => h) ((Ex.move rfl).s) ?_
          refine Any.case 75 rfl (fun hc => ?_) (fun hc => ?_)
          · replace hf := ifTb hc hf
            refine Any.take 0 2 rfl rfl rfl rfl rfl (by kernel_rfl) (fun _ _ _ _ _ h => h) (ExS.g (ExS.loadAgg [.slice A347 y346.1.Add.length c347, .slice A348 y346.1.Drop.length c348, vi y346.1.Floor] rfl Try.underlying29 rfl sz29 rfl (fun w hS => by obtain ⟨_, _, _, hs⟩ := hS; exact hs.cells (i := 1) rfl 0 3))) hS0 ?_
            refine Any.takeE 4 rfl rfl rfl rfl (by kernel_rfl) (fun _ _ _ _ _ h => h) (ExS.g ((Ex.move rfl).s)) ?_
            refine Any.all [3, 5] (by kernel_rfl) rfl (fun i hi => ?_)
            simp only [List.mem_cons, List.not_mem_nil, or_false] at hi
            rcases hi with rfl | rfl
            · skip
              obtain ⟨y364, hy364, hf⟩ := bnd hf
              refine ⟨_, rfl, rfl, One.g <| One.of_ops rfl ?_⟩
              refine Ops.call rfl rfl Try.func20 (by kernel_rfl) (by kernel_rfl) rfl (go_law10_bytes.walk (p0 := y346.1) (hst := hst363) (f1 := f347) (f2 := f348) (hf := hy364)) ?_
              rintro _ w364 ⟨z364, rfl, hz364, hst364⟩
              refine ⟨_, rfl, Ops.stop ?_⟩
              replace f344 := f344.mono hz364; replace f347 := f347.mono hz364; replace f348 := f348.mono hz364; replace f251 := f251.mono hz364
              replace hy343_0 := hy343_0.trans hz364
              replace hy343_1 := hy343_1.trans hz364
              replace hz343 := hz343.trans hz364
              replace hm360 := hm360.trans hz364
              have hS0 := (⟨_, _, hm360, (St.up (St.up (St.up hst364 2 rfl) 2 rfl) 2 rfl)⟩ : (fun w => ∃ ζ Y, Le z346 ζ ∧ Ht w0 (frz ζ :: (blk g351 [.slice A347 y346.1.Add.length c347, .slice A348 y346.1.Drop.length c348, vi y346.1.Floor] 29) :: (orow 30 1 (.slice A251 l251.length c251) l251.length d251) :: Y) w) _)
              refine ⟨⟨.inr (fun _ => hS0), trivial⟩, ?_⟩
              refine Any.one 5 (by kernel_rfl) rfl rfl (One.g <| One.of_ops rfl ?_)
              refine Ops.str8 (f344.at_ hst364) rfl Try.underlying30 Try.underlying5 Try.underlying9 rfl (Ops.stop ?_)
              have hS0 := (⟨_, _, hm360, (St.up (St.up (St.up hst364 2 rfl) 2 rfl) 2 rfl)⟩ : (fun w => ∃ ζ Y, Le z346 ζ ∧ Ht w0 (frz ζ :: (blk g351 [.slice A347 y346.1.Add.length c347, .slice A348 y346.1.Drop.length c348, vi y346.1.Floor] 29) :: (orow 30 1 (.slice A251 l251.length c251) l251.length d251) :: Y) w) _)
              refine ⟨⟨.inr (fun _ => hS0), trivial⟩, ?_⟩
              refine Any.takeE 6 rfl rfl rfl rfl (by kernel_rfl) (fun _ _ _ _ _ h => h) (ExS.g ((Ex.neqT rfl rfl).s)) ?_
              refine Any.takeE 7 rfl rfl rfl rfl (by kernel_rfl) (fun _ _ _ _ _ h => h) ((Ex.pickT rfl rfl).s) ?_
              refine Any.takeE 8 rfl rfl rfl rfl (by kernel_rfl) (fun _ _ _ _ _ h => h) ((Ex.move rfl).s) ?_
              refine Any.case 82 rfl (fun hc => ?_) (fun hc => ?_)
              · replace hf := ifF (neq_T hc) hf
                refine Any.pass 9 rfl rfl rfl rfl (by kernel_rfl) (fun _ _ _ _ _ h => h) ?_
                refine Any.pass 10 rfl rfl rfl rfl (by kernel_rfl) (fun _ _ _ _ _ h => h) ?_
                refine Any.pass 11 rfl rfl rfl rfl (by kernel_rfl) (fun _ _ _ _ _ h => h) ?_
                refine Any.passU 12 rfl rfl rfl rfl rfl (by kernel_rfl) (fun _ _ _ _ _ h => h) ?_
                refine Any.passU 13 rfl rfl rfl rfl rfl (by kernel_rfl) (fun _ _ _ _ _ h => h) ?_
                refine Any.passU 14 rfl rfl rfl rfl rfl (by kernel_rfl) (fun _ _ _ _ _ h => h) ?_
                refine Any.passU 15 rfl rfl rfl rfl rfl (by kernel_rfl) (fun _ _ _ _ _ h => h) ?_
                refine Any.passU 16 rfl rfl rfl rfl rfl (by kernel_rfl) (fun _ _ _ _ _ h => h) ?_
                refine Any.passU 17 rfl rfl rfl rfl rfl (by kernel_rfl) (fun _ _ _ _ _ h => h) ?_
                refine Any.passU 18 rfl rfl rfl rfl rfl (by kernel_rfl) (fun _ _ _ _ _ h => h) ?_
                refine Any.passU 19 rfl rfl rfl rfl rfl (by kernel_rfl) (fun _ _ _ _ _ h => h) ?_
                refine Any.passU 20 rfl rfl rfl rfl rfl (by kernel_rfl) (fun _ _ _ _ _ h => h) ?_
                refine Any.passU 21 rfl rfl rfl rfl rfl (by kernel_rfl) (fun _ _ _ _ _ h => h) ?_
                refine Any.passU 22 rfl rfl rfl rfl rfl (by kernel_rfl) (fun _ _ _ _ _ h => h) ?_
                refine Any.passU 23 rfl rfl rfl rfl rfl (by kernel_rfl) (fun _ _ _ _ _ h => h) ?_
                refine Any.passU 24 rfl rfl rfl rfl rfl (by kernel_rfl) (fun _ _ _ _ _ h => h) ?_
                refine Any.passU 25 rfl rfl rfl rfl rfl (by kernel_rfl) (fun _ _ _ _ _ h => h) ?_
                refine Any.passU 26 rfl rfl rfl rfl rfl (by kernel_rfl) (fun _ _ _ _ _ h => h) ?_
                refine Any.pass 27 rfl rfl rfl rfl (by kernel_rfl) (fun _ _ _ _ _ h => h) ?_
                refine Any.takeE 28 rfl rfl rfl rfl (by kernel_rfl) (fun _ _ _ _ _ h => h) ((Ex.pickT rfl rfl).s) ?_
                refine Any.done (by kernel_rfl) ?_
                exact Run.sub (by exact subB_spec ⟨rfl, rfl, rfl, rfl, trivial⟩) (hj353 _ _ ⟨true, z364, hf, rfl, hm360, hy343_0, hy343_1, hz343, (St.forget hst364 1)⟩)
              · replace hf := ifT (neq_F hc) hf
                refine Any.takeE 9 rfl rfl rfl rfl (by kernel_rfl) (fun _ _ _ _ _ h => h) (ExS.g ((Ex.move rfl).s)) ?_
                refine Any.takeE 10 rfl rfl rfl rfl (by kernel_rfl) (fun _ _ _ _ _ h => h) (ExS.g ((Ex.not rfl).s)) ?_
                refine Any.takeE 11 rfl rfl rfl rfl (by kernel_rfl) (fun _ _ _ _ _ h => h) (ExS.g ((Ex.move rfl).s)) ?_
                refine Any.case 85 rfl (fun hc => ?_) (fun hc => ?_)
                · replace hf := ifFb (bn_T hc) hf
                  refine Any.takeE 12 rfl rfl rfl rfl (by kernel_rfl) (fun _ _ _ _ _ h => h) (ExS.g ((Ex.fieldAddr rfl Try.underlying29 rfl sz3).s)) ?_
                  refine Any.take 0 13 rfl rfl rfl rfl rfl (by kernel_rfl) (fun _ _ _ _ _ h => h) (ExS.g (ExS.load rfl Try.underlying3 rfl (fun w hS => by obtain ⟨_, _, _, hs⟩ := hS; exact hs.cell (i := 1) rfl rfl))) hS0 ?_
                  refine Any.takeE 14 rfl rfl rfl rfl (by kernel_rfl) (fun _ _ _ _ _ h => h) (ExS.g ((Ex.neqI rfl rfl).s)) ?_
                  refine Any.takeE 15 rfl rfl rfl rfl (by kernel_rfl) (fun _ _ _ _ _ h => h) (ExS.g ((Ex.move rfl).s)) ?_
                  refine Any.case 89 rfl (fun hc => ?_) (fun hc => ?_)
                  · replace hf := ifF (neq_T hc) hf
                    refine Any.pass 16 rfl rfl rfl rfl (by kernel_rfl) (fun _ _ _ _ _ h => h) ?_
                    refine Any.pass 17 rfl rfl rfl rfl (by kernel_rfl) (fun _ _ _ _ _ h => h) ?_
                    refine Any.pass 18 rfl rfl rfl rfl (by kernel_rfl) (fun _ _ _ _ _ h => h) ?_
                    refine Any.pass 19 rfl rfl rfl rfl (by kernel_rfl) (fun _ _ _ _ _ h => h) ?_
                    refine Any.takeE 20 rfl rfl rfl rfl (by kernel_rfl) (fun _ _ _ _ _ h => h) (ExS.g ((Ex.pickT rfl rfl).s)) ?_
                    refine Any.takeE 21 rfl rfl rfl rfl (by kernel_rfl) (fun _ _ _ _ _ h => h) (ExS.g ((Ex.move rfl).s)) ?_
                    refine Any.pass 22 rfl rfl rfl rfl (by kernel_rfl) (fun _ _ _ _ _ h => h) ?_
                    refine Any.pass 23 rfl rfl rfl rfl (by kernel_rfl) (fun _ _ _ _ _ h => h) ?_
                    refine Any.pass 24 rfl rfl rfl rfl (by kernel_rfl) (fun _ _ _ _ _ h => h) ?_
                    refine Any.pass 25 rfl rfl rfl rfl (by kernel_rfl) (fun _ _ _ _ _ h => h) ?_
                    refine Any.takeE 26 rfl rfl rfl rfl (by kernel_rfl) (fun _ _ _ _ _ h => h) (ExS.g ((Ex.pickT rfl rfl).s)) ?_
                    refine Any.takeE 27 rfl rfl rfl rfl (by kernel_rfl) (fun _ _ _ _ _ h => h) (ExS.g ((Ex.pickT rfl rfl).s)) ?_
                    refine Any.takeE 28 rfl rfl rfl rfl (by kernel_rfl) (fun _ _ _ _ _ h => h) ((Ex.pickF rfl rfl).s) ?_
                    refine Any.done (by kernel_rfl) ?_
                    exact Run.sub (by exact subB_spec ⟨rfl, rfl, rfl, rfl, trivial⟩) (hj353 _ _ ⟨true, z364, hf, rfl, hm360, hy343_0, hy343_1, hz343, (St.forget hst364 1)⟩)
                  · replace hf := ifT (neq_F hc) hf
                    refine Any.takeE 16 rfl rfl rfl rfl (by kernel_rfl) (fun _ _ _ _ _ h => h) (ExS.g ((Ex.fieldAddr rfl Try.underlying29 rfl sz26).s)) ?_
                    refine Any.take 0 17 rfl rfl rfl rfl rfl (by kernel_rfl) (fun _ _ _ _ _ h => h) (ExS.g (ExS.load rfl Try.underlying26 rfl (fun w hS => by obtain ⟨_, _, _, hs⟩ := hS; exact hs.cell (i := 1) rfl rfl))) hS0 ?_
                    refine Any.takeE 18 rfl rfl rfl rfl (by kernel_rfl) (fun _ _ _ _ _ h => h) (ExS.g ((Ex.len' rfl rfl rfl Try.underlying26).s)) ?_
                    refine Any.takeE 19 rfl rfl rfl rfl (by kernel_rfl) (fun _ _ _ _ _ h => h) (ExS.g ((Ex.neqI rfl rfl).s)) ?_
                    refine Any.takeE 20 rfl rfl rfl rfl (by kernel_rfl) (fun _ _ _ _ _ h => h) (ExS.g ((Ex.pickF rfl rfl).s)) ?_
                    refine Any.takeE 21 rfl rfl rfl rfl (by kernel_rfl) (fun _ _ _ _ _ h => h) (ExS.g ((Ex.move rfl).s)) ?_
                    refine Any.case 95 rfl (fun hc => ?_) (fun hc => ?_)
                    · replace hf := ifF (neq_T hc) hf
                      refine Any.pass 22 rfl rfl rfl rfl (by kernel_rfl) (fun _ _ _ _ _ h => h) ?_
                      refine Any.pass 23 rfl rfl rfl rfl (by kernel_rfl) (fun _ _ _ _ _ h => h) ?_
                      refine Any.pass 24 rfl rfl rfl rfl (by kernel_rfl) (fun _ _ _ _ _ h => h) ?_
                      refine Any.pass 25 rfl rfl rfl rfl (by kernel_rfl) (fun _ _ _ _ _ h => h) ?_
                      refine Any.takeE 26 rfl rfl rfl rfl (by kernel_rfl) (fun _ _ _ _ _ h => h) (ExS.g ((Ex.pickT rfl rfl).s)) ?_
                      refine Any.takeE 27 rfl rfl rfl rfl (by kernel_rfl) (fun _ _ _ _ _ h => h) (ExS.g ((Ex.pickT rfl rfl).s)) ?_
                      refine Any.takeE 28 rfl rfl rfl rfl (by kernel_rfl) (fun _ _ _ _ _ h => h) ((Ex.pickF rfl rfl).s) ?_
                      refine Any.done (by kernel_rfl) ?_
                      exact Run.sub (by exact subB_spec ⟨rfl, rfl, rfl, rfl, trivial⟩) (hj353 _ _ ⟨true, z364, hf, rfl, hm360, hy343_0, hy343_1, hz343, (St.forget hst364 1)⟩)
                    · replace hf := ifT (neq_F hc) hf
                      refine Any.takeE 22 rfl rfl rfl rfl (by kernel_rfl) (fun _ _ _ _ _ h => h) (ExS.g ((Ex.fieldAddr rfl Try.underlying29 rfl sz27).s)) ?_
                      refine Any.take 0 23 rfl rfl rfl rfl rfl (by kernel_rfl) (fun _ _ _ _ _ h => h) (ExS.g (ExS.load rfl Try.underlying27 rfl (fun w hS => by obtain ⟨_, _, _, hs⟩ := hS; exact hs.cell (i := 1) rfl rfl))) hS0 ?_
                      refine Any.takeE 24 rfl rfl rfl rfl (by kernel_rfl) (fun _ _ _ _ _ h => h) (ExS.g ((Ex.len' rfl rfl rfl Try.underlying27).s)) ?_
                      refine Any.takeE 25 rfl rfl rfl rfl (by kernel_rfl) (fun _ _ _ _ _ h => h) (ExS.g ((Ex.neqI rfl rfl).s)) ?_
                      refine Any.takeE 26 rfl rfl rfl rfl (by kernel_rfl) (fun _ _ _ _ _ h => h) (ExS.g ((Ex.pickF rfl rfl).s)) ?_
                      refine Any.takeE 27 rfl rfl rfl rfl (by kernel_rfl) (fun _ _ _ _ _ h => h) (ExS.g ((Ex.pickT rfl rfl).s)) ?_
                      refine Any.takeE 28 rfl rfl rfl rfl (by kernel_rfl) (fun _ _ _ _ _ h => h) ((Ex.pickF rfl rfl).s) ?_
                      refine Any.done (by kernel_rfl) ?_
                      exact Run.sub (by exact subB_spec ⟨rfl, rfl, rfl, rfl, trivial⟩) (hj353 _ _ ⟨!(decide ((y346.1.Drop.length : Int) = 0)), z364, hf, rfl, hm360, hy343_0, hy343_1, hz343, (St.forget hst364 1)⟩)
                · replace hf := ifTb (bn_F hc) hf
                  refine Any.pass 12 rfl rfl rfl rfl (by kernel_rfl) (fun _ _ _ _ _ h => h) ?_
                  refine Any.pass 13 rfl rfl rfl rfl (by kernel_rfl) (fun _ _ _ _ _ h => h) ?_
                  refine Any.pass 14 rfl rfl rfl rfl (by kernel_rfl) (fun _ _ _ _ _ h => h) ?_
                  refine Any.pass 15 rfl rfl rfl rfl (by kernel_rfl) (fun _ _ _ _ _ h => h) ?_
                  refine Any.passU 16 rfl rfl rfl rfl rfl (by kernel_rfl) (fun _ _ _ _ _ h => h) ?_
                  refine Any.passU 17 rfl rfl rfl rfl rfl (by kernel_rfl) (fun _ _ _ _ _ h => h) ?_
                  refine Any.passU 18 rfl rfl rfl rfl rfl (by kernel_rfl) (fun _ _ _ _ _ h => h) ?_
                  refine Any.passU 19 rfl rfl rfl rfl rfl (by kernel_rfl) (fun _ _ _ _ _ h => h) ?_
                  refine Any.pass 20 rfl rfl rfl rfl (by kernel_rfl) (fun _ _ _ _ _ h => h) ?_
                  refine Any.pass 21 rfl rfl rfl rfl (by kernel_rfl) (fun _ _ _ _ _ h => h) ?_
                  refine Any.passU 22 rfl rfl rfl rfl rfl (by kernel_rfl) (fun _ _ _ _ _ h => h) ?_
                  refine Any.passU 23 rfl rfl rfl rfl rfl (by kernel_rfl) (fun _ _ _ _ _ h => h) ?_
                  refine Any.passU 24 rfl rfl rfl rfl rfl (by kernel_rfl) (fun _ _ _ _ _ h => h) ?_
                  refine Any.passU 25 rfl rfl rfl rfl rfl (by kernel_rfl) (fun _ _ _ _ _ h => h) ?_
                  refine Any.pass 26 rfl rfl rfl rfl (by kernel_rfl) (fun _ _ _ _ _ h => h) ?_
                  refine Any.takeE 27 rfl rfl rfl rfl (by kernel_rfl) (fun _ _ _ _ _ h => h) (ExS.g ((Ex.pickF rfl rfl).s)) ?_
                  refine Any.takeE 28 rfl rfl rfl rfl (by kernel_rfl) (fun _ _ _ _ _ h => h) ((Ex.pickF rfl rfl).s) ?_
                  refine Any.done (by kernel_rfl) ?_
                  exact Run.sub (by exact subB_spec ⟨rfl, rfl, rfl, rfl, trivial⟩) (hj353 _ _ ⟨false, z364, hf, rfl, hm360, hy343_0, hy343_1, hz343, (St.forget hst364 1)⟩)
            · skip
              refine ⟨_, rfl, rfl, One.g <| One.of_ops rfl ?_⟩
              refine Ops.str8 (f344.at_ hst363) rfl Try.underlying30 Try.underlying5 Try.underlying9 rfl (Ops.stop ?_)
              have hS0 := (⟨_, _, (Le.refl _), (St.up (St.up (St.up hst363 2 rfl) 2 rfl) 2 rfl)⟩ : (fun w => ∃ ζ Y, Le z346 ζ ∧ Ht w0 (frz ζ :: (blk g351 [.slice A347 y346.1.Add.length c347, .slice A348 y346.1.Drop.length c348, vi y346.1.Floor] 29) :: (orow 30 1 (.slice A251 l251.length c251) l251.length d251) :: Y) w) _)
              refine ⟨⟨.inr (fun _ => hS0), trivial⟩, ?_⟩
              obtain ⟨y366, hy366, hf⟩ := bnd hf
              refine Any.one 3 (by kernel_rfl) rfl rfl (One.g <| One.of_ops rfl ?_)
              refine Ops.call rfl rfl Try.func20 (by kernel_rfl) (by kernel_rfl) rfl (go_law10_bytes.walk (p0 := y346.1) (hst := hst363) (f1 := f347) (f2 := f348) (hf := hy366)) ?_
              rintro _ w366 ⟨z366, rfl, hz366, hst366⟩
              refine ⟨_, rfl, Ops.stop ?_⟩
              replace f344 := f344.mono hz366; replace f347 := f347.mono hz366; replace f348 := f348.mono hz366; replace f251 := f251.mono hz366
              replace hy343_0 := hy343_0.trans hz366
              replace hy343_1 := hy343_1.trans hz366
              replace hz343 := hz343.trans hz366
              replace hm360 := hm360.trans hz366
              have hS0 := (⟨_, _, hm360, (St.up (St.up (St.up hst366 2 rfl) 2 rfl) 2 rfl)⟩ : (fun w => ∃ ζ Y, Le z346 ζ ∧ Ht w0 (frz ζ :: (blk g351 [.slice A347 y346.1.Add.length c347, .slice A348 y346.1.Drop.length c348, vi y346.1.Floor] 29) :: (orow 30 1 (.slice A251 l251.length c251) l251.length d251) :: Y) w) _)
              refine ⟨⟨.inr (fun _ => hS0), trivial⟩, ?_⟩
              refine Any.takeE 6 rfl rfl rfl rfl (by kernel_rfl) (fun _ _ _ _ _ h => h) (ExS.g ((Ex.neqT rfl rfl).s)) ?_
              refine Any.takeE 7 rfl rfl rfl rfl (by kernel_rfl) (fun _ _ _ _ _ h => h) ((Ex.pickT rfl rfl).s) ?_
              refine Any.takeE 8 rfl rfl rfl rfl (by kernel_rfl) (fun _ _ _ _ _ h => h) ((Ex.move rfl).s) ?_
              refine Any.case 82 rfl (fun hc => ?_) (fun hc => ?_)
              · replace hf := ifF (neq_T hc) hf
                refine Any.pass 9 rfl rfl rfl rfl (by kernel_rfl) (fun _ _ _ _ _ h => h) ?_
                refine Any.pass 10 rfl rfl rfl rfl (by kernel_rfl) (fun _ _ _ _ _ h => h) ?_
                refine Any.pass 11 rfl rfl rfl rfl (by kernel_rfl) (fun _ _ _ _ _ h => h) ?_
                refine Any.passU 12 rfl rfl rfl rfl rfl (by kernel_rfl) (fun _ _ _ _ _ h => h) ?_
                refine Any.passU 13 rfl rfl rfl rfl rfl (by kernel_rfl) (fun _ _ _ _ _ h => h) ?_
                refine Any.passU 14 rfl rfl rfl rfl rfl (by kernel_rfl) (fun _ _ _ _ _ h => h) ?_
                refine Any.passU 15 rfl rfl rfl rfl rfl (by kernel_rfl) (fun _ _ _ _ _ h => h) ?_
                refine Any.passU 16 rfl rfl rfl rfl rfl (by kernel_rfl) (fun _ _ _ _ _ h => h) ?_
                refine Any.passU 17 rfl rfl rfl rfl rfl (by kernel_rfl) (fun _ _ _ _ _ h => h) ?_
                refine Any.passU 18 rfl rfl rfl rfl rfl (by kernel_rfl) (fun _ _ _ _ _ h => h) ?_
                refine Any.passU 19 rfl rfl rfl rfl rfl (by kernel_rfl) (fun _ _ _ _ _ h => h) ?_
                refine Any.passU 20 rfl rfl rfl rfl rfl (by kernel_rfl) (fun _ _ _ _ _ h => h) ?_
                refine Any.passU 21 rfl rfl rfl rfl rfl (by kernel_rfl) (fun _ _ _ _ _ h => h) ?_
                refine Any.passU 22 rfl rfl rfl rfl rfl (by kernel_rfl) (fun _ _ _ _ _ h => h) ?_
                refine Any.passU 23 rfl rfl rfl rfl rfl (by kernel_rfl) (fun _ _ _ _ _ h => h) ?_
                refine Any.passU 24 rfl rfl rfl rfl rfl (by kernel_rfl) (fun _ _ _ _ _ h => h) ?_
                refine Any.passU 25 rfl rfl rfl rfl rfl (by kernel_rfl) (fun _ _ _ _ _ h => h) ?_
                refine Any.passU 26 rfl rfl rfl rfl rfl (by kernel_rfl) (fun _ _ _ _ _ h => h) ?_
                refine Any.pass 27 rfl rfl rfl rfl (by kernel_rfl) (fun _ _ _ _ _ h => h) ?_
                refine Any.takeE 28 rfl rfl rfl rfl (by kernel_rfl) (fun _ _ _ _ _ h => h) ((Ex.pickT rfl rfl).s) ?_
                refine Any.done (by kernel_rfl) ?_
                exact Run.sub (by exact subB_spec ⟨rfl, rfl, rfl, rfl, trivial⟩) (hj353 _ _ ⟨true, z366, hf, rfl, hm360, hy343_0, hy343_1, hz343, (St.forget hst366 1)⟩)
              · replace hf := ifT (neq_F hc) hf
                refine Any.takeE 9 rfl rfl rfl rfl (by kernel_rfl) (fun _ _ _ _ _ h => h) (ExS.g ((Ex.move rfl).s)) ?_
                refine Any.takeE 10 rfl rfl rfl rfl (by kernel_rfl) (fun _ _ _ _ _ h => h) (ExS.g ((Ex.not rfl).s)) ?_
                refine Any.takeE 11 rfl rfl rfl rfl (by kernel_rfl) (fun _ _ _ _ _ h => h) (ExS.g ((Ex.move rfl).s)) ?_
                refine Any.case 85 rfl (fun hc => ?_) (fun hc => ?_)
                · replace hf := ifFb (bn_T hc) hf
                  refine Any.takeE 12 rfl rfl rfl rfl (by kernel_rfl) (fun _ _ _ _ _ h => h) (ExS.g ((Ex.fieldAddr rfl Try.underlying29 rfl sz3).s)) ?_
                  refine Any.take 0 13 rfl rfl rfl rfl rfl (by kernel_rfl) (fun _ _ _ _ _ h => h) (ExS.g (ExS.load rfl Try.underlying3 rfl (fun w hS => by obtain ⟨_, _, _, hs⟩ := hS; exact hs.cell (i := 1) rfl rfl))) hS0 ?_
                  refine Any.takeE 14 rfl rfl rfl rfl (by kernel_rfl) (fun _ _ _ _ _ h => h) (ExS.g ((Ex.neqI rfl rfl).s)) ?_
                  refine Any.takeE 15 rfl rfl rfl rfl (by kernel_rfl) (fun _ _ _ _ _ h => h) (ExS.g ((Ex.move rfl).s)) ?_
                  refine Any.case 89 rfl (fun hc => ?_) (fun hc => ?_)
                  · replace hf := ifF (neq_T hc) hf
                    refine Any.pass 16 rfl rfl rfl rfl (by kernel_rfl) (fun _ _ _ _ _ h => h) ?_
                    refine Any.pass 17 rfl rfl rfl rfl (by kernel_rfl) (fun _ _ _ _ _ h => h) ?_
                    refine Any.pass 18 rfl rfl rfl rfl (by kernel_rfl) (fun _ _ _ _ _ h => h) ?_
                    refine Any.pass 19 rfl rfl rfl rfl (by kernel_rfl) (fun _ _ _ _ _ h => h) ?_
                    refine Any.takeE 20 rfl rfl rfl rfl (by kernel_rfl) (fun _ _ _ _ _ h => h) (ExS.g ((Ex.pickT rfl rfl).s)) ?_
                    refine Any.takeE 21 rfl rfl rfl rfl (by kernel_rfl) (fun _ _ _ _ _ h => h) (ExS.g ((Ex.move rfl).s)) ?_
                    refine Any.pass 22 rfl rfl rfl rfl (by kernel_rfl) (fun _ _ _ _ _ h => h) ?_
                    refine Any.pass 23 rfl rfl rfl rfl (by kernel_rfl) (fun _ _ _ _ _ h => h) ?_
                    refine Any.pass 24 rfl rfl rfl rfl (by kernel_rfl) (fun _ _ _ _ _ h => h) ?_
                    refine Any.pass 25 rfl rfl rfl rfl (by kernel_rfl) (fun _ _ _ _ _ h => h) ?_
                    refine Any.takeE 26 rfl rfl rfl rfl (by kernel_rfl) (fun _ _ _ _ _ h => h) (ExS.g ((Ex.pickT rfl rfl).s)) ?_
                    refine Any.takeE 27 rfl rfl rfl rfl (by kernel_rfl) (fun _ _ _ _ _ h => h) (ExS.g ((Ex.pickT rfl rfl).s)) ?_
                    refine Any.takeE 28 rfl rfl rfl rfl (by kernel_rfl) (fun _ _ _ _ _ h => h) ((Ex.pickF rfl rfl).s) ?_
                    refine Any.done (by kernel_rfl) ?_
                    exact Run.sub (by exact subB_spec ⟨rfl, rfl, rfl, rfl, trivial⟩) (hj353 _ _ ⟨true, z366, hf, rfl, hm360, hy343_0, hy343_1, hz343, (St.forget hst366 1)⟩)
                  · replace hf := ifT (neq_F hc) hf
                    refine Any.takeE 16 rfl rfl rfl rfl (by kernel_rfl) (fun _ _ _ _ _ h => h) (ExS.g ((Ex.fieldAddr rfl Try.underlying29 rfl sz26).s)) ?_
                    refine Any.take 0 17 rfl rfl rfl rfl rfl (by kernel_rfl) (fun _ _ _ _ _ h => h) (ExS.g (ExS.load rfl Try.underlying26 rfl (fun w hS => by obtain ⟨_, _, _, hs⟩ := hS; exact hs.cell (i := 1) rfl rfl))) hS0 ?_
                    refine Any.takeE 18 rfl rfl rfl rfl (by kernel_rfl) (fun _ _ _ _ _ h => h) (ExS.g ((Ex.len' rfl rfl rfl Try.underlying26).s)) ?_
                    refine Any.takeE 19 rfl rfl rfl rfl (by kernel_rfl) (fun _ _ _ _ _ h => h) (ExS.g ((Ex.neqI rfl rfl).s)) ?_
                    refine Any.takeE 20 rfl rfl rfl rfl (by kernel_rfl) (fun _ _ _ _ _ h => h) (ExS.g ((Ex.pickF rfl rfl).s)) ?_
                    refine Any.takeE 21 rfl rfl rfl rfl (by kernel_rfl) (fun _ _ _ _ _ h => h) (ExS.g ((Ex.move rfl).s)) ?_
                    refine Any.case 95 rfl (fun hc => ?_) (fun hc => ?_)
                    · replace hf := ifF (neq_T hc) hf
                      refine Any.pass 22 rfl rfl rfl rfl (by kernel_rfl) (fun _ _ _ _ _ h => h) ?_
                      refine Any.pass 23 rfl rfl rfl rfl (by kernel_rfl) (fun _ _ _ _ _ h => h) ?_
                      refine Any.pass 24 rfl rfl rfl rfl (by kernel_rfl) (fun _ _ _ _ _ h => h) ?_
                      refine Any.pass 25 rfl rfl rfl rfl (by kernel_rfl) (fun _ _ _ _ _ h => h) ?_
                      refine Any.takeE 26 rfl rfl rfl rfl (by kernel_rfl) (fun _ _ _ _ _ h => h) (ExS.g ((Ex.pickT rfl rfl).s)) ?_
                      refine Any.takeE 27 rfl rfl rfl rfl (by kernel_rfl) (fun _ _ _ _ _ h => h) (ExS.g ((Ex.pickT rfl rfl).s)) ?_
                      refine Any.takeE 28 rfl rfl rfl rfl (by kernel_rfl) (fun _ _ _ _ _ h => h) ((Ex.pickF rfl rfl).s) ?_
                      refine Any.done (by kernel_rfl) ?_
                      exact Run.sub (by exact subB_spec ⟨rfl, rfl, rfl, rfl, trivial⟩) (hj353 _ _ ⟨true, z366, hf, rfl, hm360, hy343_0, hy343_1, hz343, (St.forget hst366 1)⟩)
                    · replace hf := ifT (neq_F hc) hf
                      refine Any.takeE 22 rfl rfl rfl rfl (by kernel_rfl) (fun _ _ _ _ _ h => h) (ExS.g ((Ex.fieldAddr rfl Try.underlying29 rfl sz27).s)) ?_
                      refine Any.take 0 23 rfl rfl rfl rfl rfl (by kernel_rfl) (fun _ _ _ _ _ h => h) (ExS.g (ExS.load rfl Try.underlying27 rfl (fun w hS => by obtain ⟨_, _, _, hs⟩ := hS; exact hs.cell (i := 1) rfl rfl))) hS0 ?_
                      refine Any.takeE 24 rfl rfl rfl rfl (by kernel_rfl) (fun _ _ _ _ _ h => h) (ExS.g ((Ex.len' rfl rfl rfl Try.underlying27).s)) ?_
                      refine Any.takeE 25 rfl rfl rfl rfl (by kernel_rfl) (fun _ _ _ _ _ h => h) (ExS.g ((Ex.neqI rfl rfl).s)) ?_
                      refine Any.takeE 26 rfl rfl rfl rfl (by kernel_rfl) (fun _ _ _ _ _ h => h) (ExS.g ((Ex.pickF rfl rfl).s)) ?_
                      refine Any.takeE 27 rfl rfl rfl rfl (by kernel_rfl) (fun _ _ _ _ _ h => h) (ExS.g ((Ex.pickT rfl rfl).s)) ?_
                      refine Any.takeE 28 rfl rfl rfl rfl (by kernel_rfl) (fun _ _ _ _ _ h => h) ((Ex.pickF rfl rfl).s) ?_
                      refine Any.done (by kernel_rfl) ?_
                      exact Run.sub (by exact subB_spec ⟨rfl, rfl, rfl, rfl, trivial⟩) (hj353 _ _ ⟨!(decide ((y346.1.Drop.length : Int) = 0)), z366, hf, rfl, hm360, hy343_0, hy343_1, hz343, (St.forget hst366 1)⟩)
                · replace hf := ifTb (bn_F hc) hf
                  refine Any.pass 12 rfl rfl rfl rfl (by kernel_rfl) (fun _ _ _ _ _ h => h) ?_
                  refine Any.pass 13 rfl rfl rfl rfl (by kernel_rfl) (fun _ _ _ _ _ h => h) ?_
                  refine Any.pass 14 rfl rfl rfl rfl (by kernel_rfl) (fun _ _ _ _ _ h => h) ?_
                  refine Any.pass 15 rfl rfl rfl rfl (by kernel_rfl) (fun _ _ _ _ _ h => h) ?_
                  refine Any.passU 16 rfl rfl rfl rfl rfl (by kernel_rfl) (fun _ _ _ _ _ h => h) ?_
                  refine Any.passU 17 rfl rfl rfl rfl rfl (by kernel_rfl) (fun _ _ _ _ _ h => h) ?_
                  refine Any.passU 18 rfl rfl rfl rfl rfl (by kernel_rfl) (fun _ _ _ _ _ h => h) ?_
                  refine Any.passU 19 rfl rfl rfl rfl rfl (by kernel_rfl) (fun _ _ _ _ _ h => h) ?_
                  refine Any.pass 20 rfl rfl rfl rfl (by kernel_rfl) (fun _ _ _ _ _ h => h) ?_
                  refine Any.pass 21 rfl rfl rfl rfl (by kernel_rfl) (fun _ _ _ _ _ h => h) ?_
                  refine Any.passU 22 rfl rfl rfl rfl rfl (by kernel_rfl) (fun _ _ _ _ _ h => h) ?_
                  refine Any.passU 23 rfl rfl rfl rfl rfl (by kernel_rfl) (fun _ _ _ _ _ h => h) ?_
                  refine Any.passU 24 rfl rfl rfl rfl rfl (by kernel_rfl) (fun _ _ _ _ _ h => h) ?_
                  refine Any.passU 25 rfl rfl rfl rfl rfl (by kernel_rfl) (fun _ _ _ _ _ h => h) ?_
                  refine Any.pass 26 rfl rfl rfl rfl (by kernel_rfl) (fun _ _ _ _ _ h => h) ?_
                  refine Any.takeE 27 rfl rfl rfl rfl (by kernel_rfl) (fun _ _ _ _ _ h => h) (ExS.g ((Ex.pickF rfl rfl).s)) ?_
                  refine Any.takeE 28 rfl rfl rfl rfl (by kernel_rfl) (fun _ _ _ _ _ h => h) ((Ex.pickF rfl rfl).s) ?_
                  refine Any.done (by kernel_rfl) ?_
                  exact Run.sub (by exact subB_spec ⟨rfl, rfl, rfl, rfl, trivial⟩) (hj353 _ _ ⟨false, z366, hf, rfl, hm360, hy343_0, hy343_1, hz343, (St.forget hst366 1)⟩)
          · replace hf := ifFb hc hf
            refine Any.pass 2 rfl rfl rfl rfl (by kernel_rfl) (fun _ _ _ _ _ h => h) ?_
            refine Any.pass 3 rfl rfl rfl rfl (by kernel_rfl) (fun _ _ _ _ _ h => h) ?_
            refine Any.pass 4 rfl rfl rfl rfl (by kernel_rfl) (fun _ _ _ _ _ h => h) ?_
            refine Any.pass 5 rfl rfl rfl rfl (by kernel_rfl) (fun _ _ _ _ _ h => h) ?_
            refine Any.pass 6 rfl rfl rfl rfl (by kernel_rfl) (fun _ _ _ _ _ h => h) ?_
            refine Any.takeE 7 rfl rfl rfl rfl (by kernel_rfl) (fun _ _ _ _ _ h => h) ((Ex.pickF rfl rfl).s) ?_
            refine Any.takeE 8 rfl rfl rfl rfl (by kernel_rfl) (fun _ _ _ _ _ h => h) ((Ex.move rfl).s) ?_
            refine Any.takeE 9 rfl rfl rfl rfl (by kernel_rfl) (fun _ _ _ _ _ h => h) (ExS.g ((Ex.move rfl).s)) ?_
            refine Any.takeE 10 rfl rfl rfl rfl (by kernel_rfl) (fun _ _ _ _ _ h => h) (ExS.g ((Ex.not rfl).s)) ?_
            refine Any.takeE 11 rfl rfl rfl rfl (by kernel_rfl) (fun _ _ _ _ _ h => h) (ExS.g ((Ex.move rfl).s)) ?_
            refine Any.case 85 rfl (fun hc => ?_) (fun hc => ?_)
            · replace hf := ifFb (bn_T hc) hf
              refine Any.takeE 12 rfl rfl rfl rfl (by kernel_rfl) (fun _ _ _ _ _ h => h) (ExS.g ((Ex.fieldAddr rfl Try.underlying29 rfl sz3).s)) ?_
              refine Any.take 0 13 rfl rfl rfl rfl rfl (by kernel_rfl) (fun _ _ _ _ _ h => h) (ExS.g (ExS.load rfl Try.underlying3 rfl (fun w hS => by obtain ⟨_, _, _, hs⟩ := hS; exact hs.cell (i := 1) rfl rfl))) hS0 ?_
              refine Any.takeE 14 rfl rfl rfl rfl (by kernel_rfl) (fun _ _ _ _ _ h => h) (ExS.g ((Ex.neqI rfl rfl).s)) ?_
              refine Any.takeE 15 rfl rfl rfl rfl (by kernel_rfl) (fun _ _ _ _ _ h => h) (ExS.g ((Ex.move rfl).s)) ?_
              refine Any.case 89 rfl (fun hc => ?_) (fun hc => ?_)
              · replace hf := ifF (neq_T hc) hf
                refine Any.pass 16 rfl rfl rfl rfl (by kernel_rfl) (fun _ _ _ _ _ h => h) ?_
                refine Any.pass 17 rfl rfl rfl rfl (by kernel_rfl) (fun _ _ _ _ _ h => h) ?_
                refine Any.pass 18 rfl rfl rfl rfl (by kernel_rfl) (fun _ _ _ _ _ h => h) ?_
                refine Any.pass 19 rfl rfl rfl rfl (by kernel_rfl) (fun _ _ _ _ _ h => h) ?_
                refine Any.takeE 20 rfl rfl rfl rfl (by kernel_rfl) (fun _ _ _ _ _ h => h) (ExS.g ((Ex.pickT rfl rfl).s)) ?_
                refine Any.takeE 21 rfl rfl rfl rfl (by kernel_rfl) (fun _ _ _ _ _ h => h) (ExS.g ((Ex.move rfl).s)) ?_
                refine Any.pass 22 rfl rfl rfl rfl (by kernel_rfl) (fun _ _ _ _ _ h => h) ?_
                refine Any.pass 23 rfl rfl rfl rfl (by kernel_rfl) (fun _ _ _ _ _ h => h) ?_
                refine Any.pass 24 rfl rfl rfl rfl (by kernel_rfl) (fun _ _ _ _ _ h => h) ?_
                refine Any.pass 25 rfl rfl rfl rfl (by kernel_rfl) (fun _ _ _ _ _ h => h) ?_
                refine Any.takeE 26 rfl rfl rfl rfl (by kernel_rfl) (fun _ _ _ _ _ h => h) (ExS.g ((Ex.pickT rfl rfl).s)) ?_
                refine Any.takeE 27 rfl rfl rfl rfl (by kernel_rfl) (fun _ _ _ _ _ h => h) (ExS.g ((Ex.pickT rfl rfl).s)) ?_
                refine Any.takeE 28 rfl rfl rfl rfl (by kernel_rfl) (fun _ _ _ _ _ h => h) ((Ex.pickF rfl rfl).s) ?_
                refine Any.done (by kernel_rfl) ?_
                exact Run.sub (by exact subB_spec ⟨rfl, rfl, rfl, rfl, trivial⟩) (hj353 _ _ ⟨true, z346, hf, rfl, hm360, hy343_0, hy343_1, hz343, (St.forget hst363 1)⟩)
              · replace hf := ifT (neq_F hc) hf
                refine Any.takeE 16 rfl rfl rfl rfl (by kernel_rfl) (fun _ _ _ _ _ h => h) (ExS.g ((Ex.fieldAddr rfl Try.underlying29 rfl sz26).s)) ?_
                refine Any.take 0 17 rfl rfl rfl rfl rfl (by kernel_rfl) (fun _ _ _ _ _ h => h) (ExS.g (ExS.load rfl Try.underlying26 rfl (fun w hS => by obtain ⟨_, _, _, hs⟩ := hS; exact hs.cell (i := 1) rfl rfl))) hS0 ?_
                refine Any.takeE 18 rfl rfl rfl rfl (by kernel_rfl) (fun _ _ _ _ _ h => h) (ExS.g ((Ex.len' rfl rfl rfl Try.underlying26).s)) ?_
                refine Any.takeE 19 rfl rfl rfl rfl (by kernel_rfl) (fun _ _ _ _ _ h => h) (ExS.g ((Ex.neqI rfl rfl).s)) ?_
                refine Any.takeE 20 rfl rfl rfl rfl (by kernel_rfl) (fun _ _ _ _ _ h => h) (ExS.g ((Ex.pickF rfl rfl).s)) ?_
                refine Any.takeE 21 rfl rfl rfl rfl (by kernel_rfl) (fun _ _ _ _ _ h => h) (ExS.g ((Ex.move rfl).s)) ?_
                refine Any.case 95 rfl (fun hc => ?_) (fun hc => ?_)
                · replace hf := ifF (neq_T hc) hf
                  refine Any.pass 22 rfl rfl rfl rfl (by kernel_rfl) (fun _ _ _ _ _ h => h) ?_
                  refine Any.pass 23 rfl rfl rfl rfl (by kernel_rfl) (fun _ _ _ _ _ h => h) ?_
                  refine Any.pass 24 rfl rfl rfl rfl (by kernel_rfl) (fun _ _ _ _ _ h => h) ?_
                  refine Any.pass 25 rfl rfl rfl rfl (by kernel_rfl) (fun _ _ _ _ _ h => h) ?_
                  refine Any.takeE 26 rfl rfl rfl rfl (by kernel_rfl) (fun _ _ _ _ _ h => h) (ExS.g ((Ex.pickT rfl rfl).s)) ?_
                  refine Any.takeE 27 rfl rfl rfl rfl (by kernel_rfl) (fun _ _ _ _ _ h => h) (ExS.g ((Ex.pickT rfl rfl).s)) ?_
                  refine Any.takeE 28 rfl rfl rfl rfl (by kernel_rfl) (fun _ _ _ _ _ h => h) ((Ex.pickF rfl rfl).s) ?_
                  refine Any.done (by kernel_rfl) ?_
                  exact Run.sub (by exact subB_spec ⟨rfl, rfl, rfl, rfl, trivial⟩) (hj353 _ _ ⟨true, z346, hf, rfl, hm360, hy343_0, hy343_1, hz343, (St.forget hst363 1)⟩)
                · replace hf := ifT (neq_F hc) hf
                  refine Any.takeE 22 rfl rfl rfl rfl (by kernel_rfl) (fun _ _ _ _ _ h => h) (ExS.g ((Ex.fieldAddr rfl Try.underlying29 rfl sz27).s)) ?_
                  refine Any.take 0 23 rfl rfl rfl rfl rfl (by kernel_rfl) (fun _ _ _ _ _ h => h) (ExS.g (ExS.load rfl Try.underlying27 rfl (fun w hS => by obtain ⟨_, _, _, hs⟩ := hS; exact hs.cell (i := 1) rfl rfl))) hS0 ?_
                  refine Any.takeE 24 rfl rfl rfl rfl (by kernel_rfl) (fun _ _ _ _ _ h => h) (ExS.g ((Ex.len' rfl rfl rfl Try.underlying27).s)) ?_
                  refine Any.takeE 25 rfl rfl rfl rfl (by kernel_rfl) (fun _ _ _ _ _ h => h) (ExS.g ((Ex.neqI rfl rfl).s)) ?_
                  refine Any.takeE 26 rfl rfl rfl rfl (by kernel_rfl) (fun _ _ _ _ _ h => h) (ExS.g ((Ex.pickF rfl rfl).s)) ?_
                  refine Any.takeE 27 rfl rfl rfl rfl (by kernel_rfl) (fun _ _ _ _ _ h => h) (ExS.g ((Ex.pickT rfl rfl).s)) ?_
                  refine Any.takeE 28 rfl rfl rfl rfl (by kernel_rfl) (fun _ _ _ _ _ h => h) ((Ex.pickF rfl rfl).s) ?_
                  refine Any.done (by kernel_rfl) ?_
                  exact Run.sub (by exact subB_spec ⟨rfl, rfl, rfl, rfl, trivial⟩) (hj353 _ _ ⟨!(decide ((y346.1.Drop.length : Int) = 0)), z346, hf, rfl, hm360, hy343_0, hy343_1, hz343, (St.forget hst363 1)⟩)
            · replace hf := ifTb (bn_F hc) hf
              refine Any.pass 12 rfl rfl rfl rfl (by kernel_rfl) (fun _ _ _ _ _ h => h) ?_
              refine Any.pass 13 rfl rfl rfl rfl (by kernel_rfl) (fun _ _ _ _ _ h => h) ?_
              refine Any.pass 14 rfl rfl rfl rfl (by kernel_rfl) (fun _ _ _ _ _ h => h) ?_
              refine Any.pass 15 rfl rfl rfl rfl (by kernel_rfl) (fun _ _ _ _ _ h => h) ?_
              refine Any.passU 16 rfl rfl rfl rfl rfl (by kernel_rfl) (fun _ _ _ _ _ h => h) ?_
              refine Any.passU 17 rfl rfl rfl rfl rfl (by kernel_rfl) (fun _ _ _ _ _ h => h) ?_
              refine Any.passU 18 rfl rfl rfl rfl rfl (by kernel_rfl) (fun _ _ _ _ _ h => h) ?_
              refine Any.passU 19 rfl rfl rfl rfl rfl (by kernel_rfl) (fun _ _ _ _ _ h => h) ?_
              refine Any.pass 20 rfl rfl rfl rfl (by kernel_rfl) (fun _ _ _ _ _ h => h) ?_
              refine Any.pass 21 rfl rfl rfl rfl (by kernel_rfl) (fun _ _ _ _ _ h => h) ?_
              refine Any.passU 22 rfl rfl rfl rfl rfl (by kernel_rfl) (fun _ _ _ _ _ h => h) ?_
              refine Any.passU 23 rfl rfl rfl rfl rfl (by kernel_rfl) (fun _ _ _ _ _ h => h) ?_
              refine Any.passU 24 rfl rfl rfl rfl rfl (by kernel_rfl) (fun _ _ _ _ _ h => h) ?_
              refine Any.passU 25 rfl rfl rfl rfl rfl (by kernel_rfl) (fun _ _ _ _ _ h => h) ?_
              refine Any.pass 26 rfl rfl rfl rfl (by kernel_rfl) (fun _ _ _ _ _ h => h) ?_
              refine Any.takeE 27 rfl rfl rfl rfl (by kernel_rfl) (fun _ _ _ _ _ h => h) (ExS.g ((Ex.pickF rfl rfl).s)) ?_
              refine Any.takeE 28 rfl rfl rfl rfl (by kernel_rfl) (fun _ _ _ _ _ h => h) ((Ex.pickF rfl rfl).s) ?_
              refine Any.done (by kernel_rfl) ?_
              exact Run.sub (by exact subB_spec ⟨rfl, rfl, rfl, rfl, trivial⟩) (hj353 _ _ ⟨false, z346, hf, rfl, hm360, hy343_0, hy343_1, hz343, (St.forget hst363 1)⟩)
        · rintro e' w368 ⟨b362, z361, hf, rfl, hz368, hy368_0, hy368_1, hy368_2, hst368⟩
          replace f251 := f251.mono hz368
          unfold go_law10_EditsRead.j1 at hf
          refine Run.cond rfl (fun hc => ?_) (fun hc => ?_)
          · replace hf := ifTb hc hf
            refine Run.seq ?_
            refine Run.region ?_
            refine Ops.ex (Ex.assign rfl) rfl rfl rfl ?_
            refine Ops.nil ?_
            obtain rfl := Option.some.inj hf
            exact Run.retV [vb false] rfl ⟨rfl, trivial⟩ ⟨z361, rfl, hy368_0, (St.forget hst368 1)⟩
          · replace hf := ifFb hc hf
            refine Run.skip ?_
            refine Run.endBlk ?_
            refine Run.region ?_
            refine Ops.ex (Ex.add rfl rfl) rfl rfl rfl ?_
            refine Ops.ex (Ex.move rfl) rfl rfl rfl ?_
            refine Ops.nil ?_
            refine Run.re 65 rfl (congrArg vi (wr_succ' hl285 hc285)) ?_
            exact Run.sub (by exact subB_spec ⟨rfl, rfl, rfl, trivial⟩) (Run.stop ⟨l251.length - (i285 + 1), by omega, i285 + 1, z361, rfl, by omega, (hnxb285 _).symm.trans hf, rfl, hy368_2, hy368_0, hy368_1, hst368⟩)
      · replace hf := forL_out hf (nlt_of_dec hc)
        try dsimp only at hf
        refine Run.exit _ rfl ?_
        refine Run.seq ?_
        refine Run.region ?_
        refine Ops.ex (Ex.assign rfl) rfl rfl rfl ?_
        refine Ops.nil ?_
        obtain rfl := Option.some.inj hf
        exact Run.retV [vb true] rfl ⟨rfl, trivial⟩ ⟨z342, rfl, hy343_0, (St.forget hst343 1)⟩
end Go.Proofs.Ytjlhookdigbjhaa.E6
