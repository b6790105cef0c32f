/- Edits: EditsBytes, EditsRead. -/
import Derived.Test.YtjlhookdigbjhaaE5
namespace Go.Proofs.Ytjlhookdigbjhaa.E6
open Go Go.RowKit Go.Proofs.Ytjlhookdigbjhaa.Sx Go.Proofs.Ytjlhookdigbjhaa.E1 Go.Proofs.Ytjlhookdigbjhaa.E2 Go.Proofs.Ytjlhookdigbjhaa.E3 Go.Proofs.Ytjlhookdigbjhaa.E4 Go.Proofs.Ytjlhookdigbjhaa.E5
set_option linter.unusedVariables false
set_option linter.unusedSimpArgs false
theorem inf29 : (Try.prog.info? 29).map (fun i => (i.zero, i.size, i.bytes)) = some (some (.agg #[.slice none 0 0, .slice none 0 0, .int .i64 0]), 3, 56) := by kernel_rfl
theorem zr30 : (Try.prog.info? 30).map (·.zero) = some (some (.slice none 0 0)) := by kernel_rfl
theorem inf30 : (Try.prog.info? 30).map (fun i => (i.zero, i.size, i.bytes)) = some (some (.slice none 0 0), 1, 24) := by kernel_rfl
def go_law10_EditsBytes.j1 (nxb1499 : Unit → Option Bool) (b1633 : Bool) : Option Bool :=
  if b1633 then (some false) else (nxb1499 ())
def go_law10_EditsBytes.b3 (i1499 : Nat) (a1499 : editsEdit) : Unit → (Unit → Option Bool) → Option Bool :=
  fun _ nxb1499 => (go_edits_Bytes a1499).bind fun y1607 => (go_edits_Read y1607).bind fun y1609 => (go_law10_bytes a1499).bind fun y1635 => if y1607 = y1635 then (if y1609.2 then ((go_law10_bytes y1609.1).bind fun y1637 => (go_law10_bytes a1499).bind fun y1639 => go_law10_EditsBytes.j1 nxb1499 (!(decide (y1637 = y1639)))) else (go_law10_EditsBytes.j1 nxb1499 true)) else (go_law10_EditsBytes.j1 nxb1499 true)
def go_law10_EditsBytes.b2 (i1134 : Nat) (a1134 : law10Step) : (List editsEdit) → (List editsEdit → Option Bool) → Option Bool :=
  fun l1478 nxb1134 => (go_law10_Step_Edit a1134).bind fun y1491 => if a1134.Odd then (nxb1134 l1478) else ((apB 56 l1478 [y1491]).bind fun l1498 => nxb1134 l1498)
def go_law10_EditsBytes.b1 (i17 : Nat) (a17 : apiRef) : (List apiRef) → (List apiRef → Option Bool) → Option Bool :=
  fun l1105 nxb17 => (atI l1105 (i17 : Int)).bind fun y1107 => (cutI y1107.Name 0 (min (y1107.Name.length : Int) 60)).bind fun s1117 => (putI l1105 (i17 : Int) (⟨s1117, y1107.Kind, y1107.From, y1107.To⟩ : apiRef)).bind fun l1123 => (atI l1123 (i17 : Int)).bind fun y1124 => (putI l1123 (i17 : Int) (⟨y1124.Name, andI y1107.Kind 255, y1124.From, y1124.To⟩ : apiRef)).bind fun l1130 => nxb17 l1130
def go_law10_EditsBytes (p0 : List law10Step) (p1 : editsEdit) : Option Bool :=
  (go_law10_awake).bind fun y6 => if y6 then ((cutI p1.Add 0 (min (p1.Add.length : Int) 20)).bind fun l10 => (cutI p1.Drop 0 (min (p1.Drop.length : Int) 20)).bind fun l11 => (apB 40 [] l10).bind fun l12 => forL (go_law10_EditsBytes.b1) (fun l1105 => (cutI p0 0 (min (p0.length : Int) 20)).bind fun l1133 => forL (go_law10_EditsBytes.b2) (fun l1478 => forL (go_law10_EditsBytes.b3) (fun _ => some true) 0 l1478 ()) 0 l1133 [(⟨l1105, l11, p1.Floor⟩ : editsEdit)]) 0 l12 l12) else (some false)
set_option maxRecDepth 100000 in
set_option maxHeartbeats 4000000 in
theorem go_law10_EditsBytes.walk {w0 w : World} {X : List Res} {z0 : Zp} {p0 : List law10Step} {A1 : Option Addr} {c1 : Nat} {p1 : editsEdit} {A2 : Option Addr} {c2 : Nat} {A3 : Option Addr} {c3 : Nat} {r : Bool} (hst : Ht w0 (frz z0 :: X) w) (f1 : Sl tlaw10Step z0 A1 c1 p0) (f2 : Sl tapiRef z0 A2 c2 p1.Add) (f3 : Sl tS z0 A3 c3 p1.Drop) (hf : go_law10_EditsBytes p0 p1 = some r) :
    Calls Try.prog 7 #[.slice A1 p0.length c1, .agg #[.slice A2 p1.Add.length c2, .slice A3 p1.Drop.length c3, vi p1.Floor]] w fun e w' => ∃ (z' : Zp), e = .returned (vb r) ∧ Le z0 z' ∧ Ht w0 (frz z' :: X) w' := by
  refine calls_np Try.func7 rfl rfl ?_
  have hle0 := Le.refl z0
  unfold go_law10_EditsBytes at hf
  refine Run.seq ?_
  refine Run.region ?_
  refine Ops.boxF [.slice A2 p1.Add.length c2, .slice A3 p1.Drop.length c3, vi p1.Floor] hst rfl rfl rfl (fun g5 w5 hst5 => ?_)
  refine Ops.ex (Ex.assign rfl) rfl rfl rfl ?_
  refine Ops.nil ?_
  refine Run.seq ?_
  refine Run.seq ?_
  refine Run.region ?_
  obtain ⟨y6, hy6, hf⟩ := bnd hf
  refine Ops.call rfl rfl Try.func11 (by kernel_rfl) (by kernel_rfl) rfl (go_law10_awake.walk (hst := hst5) (hf := hy6)) ?_
  rintro _ w6 ⟨z6, rfl, hz6, hst6⟩
  refine ⟨_, rfl, ?_⟩
  replace f1 := f1.mono hz6; replace f2 := f2.mono hz6; replace f3 := f3.mono hz6
  replace hle0 := hle0.trans hz6
  refine Ops.ex (Ex.not rfl) rfl rfl rfl ?_
  refine Ops.nil ?_
  refine Run.cond rfl (fun hc => ?_) (fun hc => ?_)
  · replace hf := ifFb (bn_T hc) hf
    refine Run.seq ?_
    refine Run.region ?_
    refine Ops.ex (Ex.assign rfl) rfl rfl rfl ?_
    refine Ops.nil ?_
    obtain rfl := Option.some.inj hf
    exact Run.retV [vb false] rfl ⟨rfl, trivial⟩ ⟨z6, rfl, hle0, (St.forget hst6 1)⟩
  · replace hf := ifTb (bn_F hc) hf
    refine Run.skip ?_
    refine Run.seq ?_
    have hm9 := Le.refl z6
    refine Run.drawH [([], fun w => ∃ ζ Y, Le z6 ζ ∧ Ht w0 (frz ζ :: Y) w), ([16, 18], fun w => ∃ ζ Y, Le z6 ζ ∧ Ht w0 (frz ζ :: (blk g5 [.slice A2 p1.Add.length c2, .slice A3 p1.Drop.length c3, vi p1.Floor] 29) :: Y) w)] (by kernel_rfl) hst6 (fun w8 hst8 => ?_)
    have hS0 := (⟨_, _, (Le.refl _), hst8⟩ : (fun w => ∃ ζ Y, Le z6 ζ ∧ Ht w0 (frz ζ :: Y) w) _)
    have hS1 := (⟨_, _, (Le.refl _), (St.up (St.up hst8 1 rfl) 1 rfl)⟩ : (fun w => ∃ ζ Y, Le z6 ζ ∧ Ht w0 (frz ζ :: (blk g5 [.slice A2 p1.Add.length c2, .slice A3 p1.Drop.length c3, vi p1.Floor] 29) :: Y) w) _)
    refine Any.takeE 0 rfl rfl rfl rfl (by kernel_rfl) (fun _ _ _ _ _ h => h) ((Ex.fieldAddr rfl Try.underlying29 rfl sz26).s) ?_
    refine Any.take 1 1 rfl rfl rfl rfl rfl (by kernel_rfl) (fun _ _ _ _ _ h => h) (ExS.load rfl Try.underlying26 rfl (fun w hS => by obtain ⟨_, _, _, hs⟩ := hS; exact hs.cell (i := 1) rfl rfl)) hS1 ?_
    refine Any.takeE 2 rfl rfl rfl rfl (by kernel_rfl) (fun _ _ _ _ _ h => h) ((Ex.fieldAddr rfl Try.underlying29 rfl sz26).s) ?_
    refine Any.take 1 3 rfl rfl rfl rfl rfl (by kernel_rfl) (fun _ _ _ _ _ h => h) (ExS.load rfl Try.underlying26 rfl (fun w hS => by obtain ⟨_, _, _, hs⟩ := hS; exact hs.cell (i := 1) rfl rfl)) hS1 ?_
    refine Any.takeE 4 rfl rfl rfl rfl (by kernel_rfl) (fun _ _ _ _ _ h => h) ((Ex.len' rfl rfl rfl Try.underlying26).s) ?_
    refine Any.takeE 5 rfl rfl rfl rfl (by kernel_rfl) (fun _ _ _ _ _ h => h) ((Ex.min2 rfl rfl rfl).s) ?_
    obtain ⟨l10, hy10, hf⟩ := bnd hf
    obtain ⟨A10, c10, hA10, hB10, f10⟩ := SlH.sub f2.toH hy10
    replace f10 := f10.toS
    refine Any.takeE 6 rfl rfl rfl rfl (by kernel_rfl) (fun _ _ _ _ _ h => h) ((Ex.subA hA10 hB10 hy10 rfl rfl Try.underlying26 sz24 rfl rfl).s) ?_
    refine Any.takeE 8 rfl rfl rfl rfl (by kernel_rfl) (fun _ _ _ _ _ h => h) ((Ex.fieldAddr rfl Try.underlying29 rfl sz27).s) ?_
    refine Any.take 1 9 rfl rfl rfl rfl rfl (by kernel_rfl) (fun _ _ _ _ _ h => h) (ExS.load rfl Try.underlying27 rfl (fun w hS => by obtain ⟨_, _, _, hs⟩ := hS; exact hs.cell (i := 1) rfl rfl)) hS1 ?_
    refine Any.takeE 10 rfl rfl rfl rfl (by kernel_rfl) (fun _ _ _ _ _ h => h) ((Ex.fieldAddr rfl Try.underlying29 rfl sz27).s) ?_
    refine Any.take 1 11 rfl rfl rfl rfl rfl (by kernel_rfl) (fun _ _ _ _ _ h => h) (ExS.load rfl Try.underlying27 rfl (fun w hS => by obtain ⟨_, _, _, hs⟩ := hS; exact hs.cell (i := 1) rfl rfl)) hS1 ?_
    refine Any.takeE 12 rfl rfl rfl rfl (by kernel_rfl) (fun _ _ _ _ _ h => h) ((Ex.len' rfl rfl rfl Try.underlying27).s) ?_
    refine Any.takeE 13 rfl rfl rfl rfl (by kernel_rfl) (fun _ _ _ _ _ h => h) ((Ex.min2 rfl rfl rfl).s) ?_
    obtain ⟨l11, hy11, hf⟩ := bnd hf
    obtain ⟨A11, c11, hA11, hB11, f11⟩ := SlH.sub f3.toH hy11
    replace f11 := f11.toS
    refine Any.takeE 14 rfl rfl rfl rfl (by kernel_rfl) (fun _ _ _ _ _ h => h) ((Ex.subA hA11 hB11 hy11 rfl rfl Try.underlying27 sz9 rfl rfl).s) ?_
    have hst13 := hst8.row0 24 4
    obtain ⟨l12, hy12, hf⟩ := bnd hf
    refine Any.one 7 (by kernel_rfl) rfl rfl (One.of_ops rfl ?_)
    refine Ops.app 1 hst13 rfl (Cs.nil tapiRef z6) rfl (f10.at_ hst13) rfl hy12 rfl rfl rfl rfl Try.underlying26 inf24 rfl (by decide) (by decide) rfl (fun A12 c12 d12 w12 f12 hst12 => Ops.stop ?_)
    have hS0 := (⟨_, _, (Le.refl _), hst12⟩ : (fun w => ∃ ζ Y, Le z6 ζ ∧ Ht w0 (frz ζ :: Y) w) _)
    have hS1 := (⟨_, _, (Le.refl _), (St.up (St.up hst12 2 rfl) 1 rfl)⟩ : (fun w => ∃ ζ Y, Le z6 ζ ∧ Ht w0 (frz ζ :: (blk g5 [.slice A2 p1.Add.length c2, .slice A3 p1.Drop.length c3, vi p1.Floor] 29) :: Y) w) _)
    refine ⟨⟨.inr (fun _ => hS0), .inr (fun _ => hS1), trivial⟩, ?_⟩
    refine Any.takeE 15 rfl rfl rfl rfl (by kernel_rfl) (fun _ _ _ _ _ h => h) ((Ex.fieldAddr rfl Try.underlying29 rfl sz26).s) ?_
    refine Any.one 16 (by kernel_rfl) rfl rfl (One.of_ops rfl ?_)
    refine Ops.store 2 [.slice A12 l12.length c12] hst12 rfl rfl rfl rfl sz26 rfl (by simp [Value.oneCell']) (by simp) (fun w15 hst15 => Ops.stop ?_)
    have hS0 := (⟨_, _, (Le.refl _), hst15⟩ : (fun w => ∃ ζ Y, Le z6 ζ ∧ Ht w0 (frz ζ :: Y) w) _)
    refine ⟨⟨.inr (fun _ => hS0), .inl (by decide), trivial⟩, ?_⟩
    refine Any.takeE 17 rfl rfl rfl rfl (by kernel_rfl) (fun _ _ _ _ _ h => h) ((Ex.fieldAddr rfl Try.underlying29 rfl sz27).s) ?_
    refine Any.one 18 (by kernel_rfl) rfl rfl (One.of_ops rfl ?_)
    refine Ops.store 2 [.slice A11 l11.length c11] hst15 rfl rfl rfl rfl sz27 rfl (by simp [Value.oneCell']) (by simp) (fun w16 hst16 => Ops.stop ?_)
    have hS0 := (⟨_, _, (Le.refl _), hst16⟩ : (fun w => ∃ ζ Y, Le z6 ζ ∧ Ht w0 (frz ζ :: Y) w) _)
    refine ⟨⟨.inr (fun _ => hS0), .inl (by decide), trivial⟩, ?_⟩
    refine Any.done (by kernel_rfl) ?_
    refine Run.seq ?_
    refine Run.seq ?_
    refine Run.region ?_
    refine Ops.ex (Ex.fieldAddr rfl Try.underlying29 rfl sz26) rfl rfl rfl ?_
    refine Ops.load rfl Try.underlying26 rfl (hst16.cell (i := 2) rfl rfl) rfl ?_
    refine Ops.ex (Ex.len' rfl rfl rfl Try.underlying26) rfl rfl rfl ?_
    refine Ops.ex (Ex.move rfl) rfl rfl rfl ?_
    refine Ops.nil ?_
    refine Run.block ?_
    have hc17 := (own_slh f12 rfl (hst16.get (i := 1) rfl)).cap
    refine Run.sub (e' := [(0, .slice A1 p0.length c1), (3, .pointer (some ⟨g5, 0, none⟩)), (36, .slice A12 l12.length c12), (37, vi (l12.length : Int)), (38, vi ((0 : Nat) : Int))]) (subB_spec ⟨rfl, rfl, rfl, rfl, rfl, trivial⟩) ?_
    refine Run.loop (fun mb17 => (fun e' w' => ∃ (i17 : Nat) (l1105 : List apiRef) (d1105 : List Value) (z1104 : Zp), mb17 = l12.length - i17 ∧ i17 ≤ l12.length ∧ forL (go_law10_EditsBytes.b1) (fun l1105 => (cutI p0 0 (min (p0.length : Int) 20)).bind fun l1133 => forL (go_law10_EditsBytes.b2) (fun l1478 => forL (go_law10_EditsBytes.b3) (fun _ => some true) 0 l1478 ()) 0 l1133 [(⟨l1105, l11, p1.Floor⟩ : editsEdit)]) i17 (l12.drop i17) l1105 = some r ∧ e' = [(0, .slice A1 p0.length c1), (3, .pointer (some ⟨g5, 0, none⟩)), (36, .slice A12 l12.length c12), (37, vi (l12.length : Int)), (38, vi (i17 : Int))] ∧ Le z6 z1104 ∧ Le z0 z1104 ∧ Cs tapiRef z1104 d1105 l1105 ∧ l1105.length = l12.length ∧ Ht w0 (frz z1104 :: (orow 24 4 (.slice A12 l12.length c12) l12.length d1105) :: (blk g5 [.slice A12 l12.length c12, .slice A11 l11.length c11, vi p1.Floor] 29) :: X) w')) l12.length ⟨0, l12, d12, z6, rfl, Nat.zero_le _, hf, rfl, hm9, hle0, f12, rfl, hst16⟩ ?_
    rintro _ e' w1106 ⟨i17, l1105, d1105, z1104, rfl, hi17, hf, rfl, hz1106, hy1106_0, f1105, hn1105, hst1106⟩
    replace f1 := f1.mono hz1106; replace f11 := f11.mono hz1106
    refine Run.seq ?_
    refine Run.region ?_
    refine Ops.ex (Ex.lss rfl rfl) rfl rfl rfl ?_
    refine Ops.nil ?_
    refine Run.seq ?_
    refine Run.cond rfl (fun hc => ?_) (fun hc => ?_)
    · have hl17 := lt_of_dec hc
      obtain ⟨a17, nxb17, ha17, hnxb17, hf⟩ := forL_in hf hl17
      unfold go_law10_EditsBytes.b1 at hf
      try dsimp only at hf
      refine Run.skip ?_
      refine Run.seq ?_
      refine Run.block ?_
      refine Run.seq ?_
      refine Run.region ?_
      refine Ops.ex (Ex.move rfl) rfl rfl rfl ?_
      obtain ⟨y1107, hy1107, hf⟩ := bnd hf
      obtain ⟨g1112, p1112, o1112, cs1112, hA1112, ho1112, hr1112, f1112⟩ := own_elem f1105 hn1105 (hst1106.get (i := 1) rfl) hy1107
      obtain rfl := hr1112
      refine Ops.ex (Ex.ixA hA1112 ho1112 hy1107 hn1105 rfl rfl Try.underlying26 sz24) rfl rfl rfl ?_
      refine Ops.loadAgg [vs y1107.Name, vi y1107.Kind, vi y1107.From, vi y1107.To] rfl Try.underlying24 rfl sz24 rfl (cells_of_zc rfl (f1112 _ (hst1106.get (i := 1) rfl))) rfl ?_
      refine Ops.allocF [vs [], vi 0, vi 0, vi 0] hst1106 zr24 rfl rfl (fun g1113 w1113 hst1113 => ?_)
      refine Ops.ex (Ex.assign rfl) rfl rfl rfl ?_
      refine Ops.store 1 [vs y1107.Name, vi y1107.Kind, vi y1107.From, vi y1107.To] hst1113 rfl rfl rfl rfl sz24 rfl (by simp [Value.oneCell']) (by simp) (fun w1114 hst1114 => ?_)
      refine Ops.nil ?_
      have hm1116 := Le.refl z1104
      refine Run.drawH [([], fun w => ∃ ζ Y, Le z1104 ζ ∧ Ht w0 (frz ζ :: (blk g1113 [vs y1107.Name, vi y1107.Kind, vi y1107.From, vi y1107.To] 24) :: (blk g5 [.slice A12 l12.length c12, .slice A11 l11.length c11, vi p1.Floor] 29) :: Y) w), ([18, 21], fun w => ∃ ζ Y, Le z1104 ζ ∧ Ht w0 (frz ζ :: (orow 24 4 (.slice A12 l12.length c12) l12.length d1105) :: Y) w)] (by kernel_rfl) hst1114 (fun w1115 hst1115 => ?_)
      have hS0 := (⟨_, _, (Le.refl _), (St.up (St.up (St.up hst1115 3 rfl) 2 rfl) 2 rfl)⟩ : (fun w => ∃ ζ Y, Le z1104 ζ ∧ Ht w0 (frz ζ :: (blk g1113 [vs y1107.Name, vi y1107.Kind, vi y1107.From, vi y1107.To] 24) :: (blk g5 [.slice A12 l12.length c12, .slice A11 l11.length c11, vi p1.Floor] 29) :: Y) w) _)
      have hS1 := (⟨_, _, (Le.refl _), (St.up (St.up hst1115 2 rfl) 1 rfl)⟩ : (fun w => ∃ ζ Y, Le z1104 ζ ∧ Ht w0 (frz ζ :: (orow 24 4 (.slice A12 l12.length c12) l12.length d1105) :: Y) w) _)
      refine Any.takeE 0 rfl rfl rfl rfl (by kernel_rfl) (fun _ _ _ _ _ h => h) ((Ex.fieldAddr rfl Try.underlying29 rfl sz26).s) ?_
      refine Any.take 0 1 rfl rfl rfl rfl rfl (by kernel_rfl) (fun _ _ _ _ _ h => h) (ExS.load rfl Try.underlying26 rfl (fun w hS => by obtain ⟨_, _, _, hs⟩ := hS; exact hs.cell (i := 2) rfl rfl)) hS0 ?_
      refine Any.takeE 2 rfl rfl rfl rfl (by kernel_rfl) (fun _ _ _ _ _ h => h) ((Ex.move rfl).s) ?_
      refine Any.takeE 3 rfl rfl rfl rfl (by kernel_rfl) (fun _ _ _ _ _ h => h) ((Ex.fieldAddr rfl Try.underlying29 rfl sz26).s) ?_
      refine Any.take 0 4 rfl rfl rfl rfl rfl (by kernel_rfl) (fun _ _ _ _ _ h => h) (ExS.load rfl Try.underlying26 rfl (fun w hS => by obtain ⟨_, _, _, hs⟩ := hS; exact hs.cell (i := 2) rfl rfl)) hS0 ?_
      refine Any.takeE 5 rfl rfl rfl rfl (by kernel_rfl) (fun _ _ _ _ _ h => h) ((Ex.move rfl).s) ?_
      refine Any.takeE 6 rfl rfl rfl rfl (by kernel_rfl) (fun _ _ _ _ _ h => h) ((Ex.fieldAddr rfl Try.underlying24 rfl sz9).s) ?_
      refine Any.take 0 7 rfl rfl rfl rfl rfl (by kernel_rfl) (fun _ _ _ _ _ h => h) (ExS.load rfl Try.underlying9 rfl (fun w hS => by obtain ⟨_, _, _, hs⟩ := hS; exact hs.cell (i := 1) rfl rfl)) hS0 ?_
      refine Any.takeE 8 rfl rfl rfl rfl (by kernel_rfl) (fun _ _ _ _ _ h => h) ((Ex.fieldAddr rfl Try.underlying24 rfl sz9).s) ?_
      refine Any.take 0 9 rfl rfl rfl rfl rfl (by kernel_rfl) (fun _ _ _ _ _ h => h) (ExS.load rfl Try.underlying9 rfl (fun w hS => by obtain ⟨_, _, _, hs⟩ := hS; exact hs.cell (i := 1) rfl rfl)) hS0 ?_
      refine Any.takeE 10 rfl rfl rfl rfl (by kernel_rfl) (fun _ _ _ _ _ h => h) ((Ex.lenT rfl rfl rfl Try.underlying9).s) ?_
      refine Any.takeE 11 rfl rfl rfl rfl (by kernel_rfl) (fun _ _ _ _ _ h => h) ((Ex.min2 rfl rfl rfl).s) ?_
      obtain ⟨s1117, hy1117, hf⟩ := bnd hf
      refine Any.takeE 12 rfl rfl rfl rfl (by kernel_rfl) (fun _ _ _ _ _ h => h) ((Ex.cutTh (lo := none) (hi := some _) hy1117 rfl Try.underlying9 rfl ⟨_, rfl⟩).s) ?_
      refine Any.takeE 13 rfl rfl rfl rfl (by kernel_rfl) (fun _ _ _ _ _ h => h) ((Ex.fieldAddr rfl Try.underlying24 rfl sz22).s) ?_
      refine Any.take 0 14 rfl rfl rfl rfl rfl (by kernel_rfl) (fun _ _ _ _ _ h => h) (ExS.load rfl Try.underlying22 rfl (fun w hS => by obtain ⟨_, _, _, hs⟩ := hS; exact hs.cell (i := 1) rfl rfl)) hS0 ?_
      refine Any.takeE 15 rfl rfl rfl rfl (by kernel_rfl) (fun _ _ _ _ _ h => h) ((Ex.andI rfl rfl).s) ?_
      obtain ⟨g1122, p1122, o1122, cs1122, hA1122, ho1122, hr1122, f1122⟩ := own_elem f1105 hn1105 (hst1115.get (i := 2) rfl) hy1107
      obtain rfl := hr1122
      refine Any.takeE 16 rfl rfl rfl rfl (by kernel_rfl) (fun _ _ _ _ _ h => h) ((Ex.ixA hA1122 ho1122 hy1107 hn1105 rfl rfl Try.underlying26 sz24).s) ?_
      refine Any.takeE 17 rfl rfl rfl rfl (by kernel_rfl) (fun _ _ _ _ _ h => h) ((Ex.fieldAddr rfl Try.underlying24 rfl sz9).s) ?_
      obtain ⟨l1123, hy1123, hf⟩ := bnd hf
      refine Any.one 18 (by kernel_rfl) rfl rfl (One.of_ops rfl ?_)
      refine Ops.storeN (off := 0) (cs := [vs y1107.Name, vi y1107.Kind, vi y1107.From, vi y1107.To]) (cs' := [vs s1117, vi y1107.Kind, vi y1107.From, vi y1107.To]) 2 hst1115 rfl f1105 hn1105 hA1122 ho1122 hy1123 f1122 rfl rfl rfl rfl rfl rfl sz9 rfl (by simp [Value.oneCell']) (by simp) (fun d1123 w1123 f1123 hn1123 hst1123 => Ops.stop ?_)
      have hS0 := (⟨_, _, (Le.refl _), (St.up (St.up (St.up hst1123 3 rfl) 2 rfl) 2 rfl)⟩ : (fun w => ∃ ζ Y, Le z1104 ζ ∧ Ht w0 (frz ζ :: (blk g1113 [vs y1107.Name, vi y1107.Kind, vi y1107.From, vi y1107.To] 24) :: (blk g5 [.slice A12 l12.length c12, .slice A11 l11.length c11, vi p1.Floor] 29) :: Y) w) _)
      refine ⟨⟨.inr (fun _ => hS0), .inl (by decide), trivial⟩, ?_⟩
      obtain ⟨y1124, hy1124, hf⟩ := bnd hf
      obtain ⟨g1129, p1129, o1129, cs1129, hA1129, ho1129, hr1129, f1129⟩ := own_elem f1123 hn1123 (hst1123.get (i := 2) rfl) hy1124
      obtain rfl := hr1129
      refine Any.takeE 19 rfl rfl rfl rfl (by kernel_rfl) (fun _ _ _ _ _ h => h) ((Ex.ixA hA1129 ho1129 hy1124 hn1123 rfl rfl Try.underlying26 sz24).s) ?_
      refine Any.takeE 20 rfl rfl rfl rfl (by kernel_rfl) (fun _ _ _ _ _ h => h) ((Ex.fieldAddr rfl Try.underlying24 rfl sz22).s) ?_
      obtain ⟨l1130, hy1130, hf⟩ := bnd hf
      refine Any.one 21 (by kernel_rfl) rfl rfl (One.of_ops rfl ?_)
      refine Ops.storeN (off := 1) (cs := [vs y1124.Name, vi y1124.Kind, vi y1124.From, vi y1124.To]) (cs' := [vs y1124.Name, vi (andI y1107.Kind 255), vi y1124.From, vi y1124.To]) 2 hst1123 rfl f1123 hn1123 hA1129 ho1129 hy1130 f1129 rfl rfl rfl rfl rfl rfl sz22 rfl (by simp [Value.oneCell']) (by simp) (fun d1130 w1130 f1130 hn1130 hst1130 => Ops.stop ?_)
      have hS0 := (⟨_, _, (Le.refl _), (St.up (St.up (St.up hst1130 3 rfl) 2 rfl) 2 rfl)⟩ : (fun w => ∃ ζ Y, Le z1104 ζ ∧ Ht w0 (frz ζ :: (blk g1113 [vs y1107.Name, vi y1107.Kind, vi y1107.From, vi y1107.To] 24) :: (blk g5 [.slice A12 l12.length c12, .slice A11 l11.length c11, vi p1.Floor] 29) :: Y) w) _)
      refine ⟨⟨.inr (fun _ => hS0), .inl (by decide), trivial⟩, ?_⟩
      refine Any.done (by kernel_rfl) ?_
      refine Run.endBlk ?_
      refine Run.region ?_
      refine Ops.ex (Ex.add rfl rfl) rfl rfl rfl ?_
      refine Ops.ex (Ex.move rfl) rfl rfl rfl ?_
      refine Ops.nil ?_
      refine Run.re 38 rfl (congrArg vi (wr_succ' hl17 hc17)) ?_
      exact Run.sub (by exact subB_spec ⟨rfl, rfl, rfl, rfl, rfl, trivial⟩) (Run.stop ⟨l12.length - (i17 + 1), by omega, i17 + 1, l1130, d1130, z1104, rfl, by omega, (hnxb17 _).symm.trans hf, rfl, hz1106, hy1106_0, f1130, hn1130, (St.forget hst1130 1)⟩)
    · replace hf := forL_out hf (nlt_of_dec hc)
      try dsimp only at hf
      refine Run.exit _ rfl ?_
      refine Run.seq ?_
      refine Run.region ?_
      refine Ops.loadAgg _ rfl Try.underlying29 rfl sz29 rfl (hst1106.cells (i := 2) rfl 0 3) rfl ?_
      obtain ⟨z1132, hz1132, f1132, hst1132⟩ := St.freeze (τ := tapiRef) (xs := l1105) hst1106 f1105 hn1105
      replace f1 := f1.mono hz1132; replace f11 := f11.mono hz1132
      replace hy1106_0 := hy1106_0.trans hz1132
      replace hz1106 := hz1106.trans hz1132
      refine Ops.sliceF [.slice A12 l12.length c12, .slice A11 l11.length c11, vi p1.Floor] hst1132 rfl Try.underlying46 sz29 zr29 rfl rfl (by kernel_rfl) rfl (by simp [Value.oneCell']) rfl (fun A1131 w1131 hst1131 => ?_)
      have f1131 : Cs teditsEdit z1132 [.slice A12 l12.length c12, .slice A11 l11.length c11, vi p1.Floor] [(⟨l1105, l11, p1.Floor⟩ : editsEdit)] := (Cs.cons (c := [.slice A12 l12.length c12, .slice A11 l11.length c11, vi p1.Floor]) ⟨_, _, _, _, (by simp [hn1105]), f1132, f11⟩ (Cs.nil _ _))
      refine Ops.ex (Ex.assign rfl) rfl rfl rfl ?_
      refine Ops.nil ?_
      refine Run.seq ?_
      refine Run.seq ?_
      refine Run.region ?_
      refine Ops.ex (Ex.move rfl) rfl rfl rfl ?_
      refine Ops.ex (Ex.move rfl) rfl rfl rfl ?_
      refine Ops.ex (Ex.len' rfl rfl rfl Try.underlying36) rfl rfl rfl ?_
      refine Ops.ex (Ex.min2 rfl rfl rfl) rfl rfl rfl ?_
      obtain ⟨l1133, hy1133, hf⟩ := bnd hf
      obtain ⟨A1133, c1133, hA1133, hB1133, f1133⟩ := SlH.sub f1.toH hy1133
      replace f1133 := f1133.toS
      refine Ops.ex (Ex.subA hA1133 hB1133 hy1133 rfl rfl Try.underlying36 sz32 rfl rfl) rfl rfl rfl ?_
      refine Ops.ex (Ex.len' rfl rfl rfl Try.underlying36) rfl rfl rfl ?_
      refine Ops.ex (Ex.move rfl) rfl rfl rfl ?_
      refine Ops.nil ?_
      refine Run.block ?_
      have hc1134 := f1133.cap
      have hm1135 := Le.refl z1132
      refine Run.sub (e' := [(7, .slice A1131 [(⟨l1105, l11, p1.Floor⟩ : editsEdit)].length 1), (70, .slice A1133 l1133.length c1133), (71, vi (l1133.length : Int)), (72, vi ((0 : Nat) : Int))]) (subB_spec ⟨rfl, rfl, rfl, rfl, trivial⟩) ?_
      refine Run.loop (fun mb1134 => (fun e' w' => ∃ (i1134 : Nat) (l1478 : List editsEdit) (A1478 : Option Addr) (c1478 : Nat) (d1478 : List Value) (z1477 : Zp), mb1134 = l1133.length - i1134 ∧ i1134 ≤ l1133.length ∧ forL (go_law10_EditsBytes.b2) (fun l1478 => forL (go_law10_EditsBytes.b3) (fun _ => some true) 0 l1478 ()) i1134 (l1133.drop i1134) l1478 = some r ∧ e' = [(7, .slice A1478 l1478.length c1478), (70, .slice A1133 l1133.length c1133), (71, vi (l1133.length : Int)), (72, vi (i1134 : Int))] ∧ Le z1132 z1477 ∧ Le z0 z1477 ∧ Le z6 z1477 ∧ Cs teditsEdit z1477 d1478 l1478 ∧ Ht w0 (frz z1477 :: (orow 29 3 (.slice A1478 l1478.length c1478) l1478.length d1478) :: X) w')) l1133.length ⟨0, [(⟨l1105, l11, p1.Floor⟩ : editsEdit)], A1131, 1, [.slice A12 l12.length c12, .slice A11 l11.length c11, vi p1.Floor], z1132, rfl, Nat.zero_le _, hf, rfl, hm1135, hy1106_0, hz1106, f1131, (St.forget hst1131 2)⟩ ?_
      rintro _ e' w1479 ⟨i1134, l1478, A1478, c1478, d1478, z1477, rfl, hi1134, hf, rfl, hz1479, hy1479_0, hy1479_1, f1478, hst1479⟩
      replace f1133 := f1133.mono hz1479
      refine Run.seq ?_
      refine Run.region ?_
      refine Ops.ex (Ex.lss rfl rfl) rfl rfl rfl ?_
      refine Ops.nil ?_
      refine Run.seq ?_
      refine Run.cond rfl (fun hc => ?_) (fun hc => ?_)
      · have hl1134 := lt_of_dec hc
        obtain ⟨a1134, nxb1134, ha1134, hnxb1134, hf⟩ := forL_in hf hl1134
        unfold go_law10_EditsBytes.b2 at hf
        try dsimp only at hf
        refine Run.skip ?_
        refine Run.seq ?_
        refine Run.block ?_
        refine Run.seq ?_
        refine Run.region ?_
        obtain ⟨g1488, p1488, o1488, cs1488, hA1488, ho1488, hr1488, f1488⟩ := SlH.elem f1133.toH (atI_nat ha1134)
        obtain ⟨A1480, c1480, A1481, c1481, rfl, f1480, f1481⟩ := hr1488
        refine Ops.ex (Ex.ixA hA1488 ho1488 (atI_nat ha1134) rfl rfl rfl Try.underlying36 sz32) rfl rfl rfl ?_
        refine Ops.loadAgg [.slice A1480 a1134.Add.length c1480, .slice A1481 a1134.Drop.length c1481, vu8 a1134.Floor, vb a1134.Odd, vs a1134.Any.Name, vi a1134.Any.Kind, vi a1134.Any.From, vi a1134.Any.To] rfl Try.underlying32 rfl sz32 rfl (cells_of_zc rfl (f1488.mono hst1479.le)) rfl ?_
        refine Ops.allocF [.slice none 0 0, .slice none 0 0, vu8 0, vb false, vs [], vi 0, vi 0, vi 0] hst1479 zr32 rfl rfl (fun g1489 w1489 hst1489 => ?_)
        refine Ops.store 1 [.slice A1480 a1134.Add.length c1480, .slice A1481 a1134.Drop.length c1481, vu8 a1134.Floor, vb a1134.Odd, vs a1134.Any.Name, vi a1134.Any.Kind, vi a1134.Any.From, vi a1134.Any.To] hst1489 rfl rfl rfl rfl sz32 rfl (by simp [Value.oneCell']) (by simp) (fun w1490 hst1490 => ?_)
        refine Ops.nil ?_
        refine Run.seq ?_
        refine Run.region ?_
        refine Ops.loadAgg _ rfl Try.underlying32 rfl sz32 rfl (hst1490.cells (i := 1) rfl 0 8) rfl ?_
        obtain ⟨y1491, hy1491, hf⟩ := bnd hf
        refine Ops.call rfl rfl Try.func12 (by kernel_rfl) (by kernel_rfl) rfl (go_law10_Step_Edit.walk (p0 := a1134) (hst := hst1490) (f1 := f1480) (f2 := f1481) (hf := hy1491)) ?_
        rintro _ w1491 ⟨z1491, A1492, c1492, A1493, c1493, rfl, hz1491, f1492, f1493, hst1491⟩
        refine ⟨_, rfl, ?_⟩
        replace f1133 := f1133.mono hz1491; replace f1488 := f1488.mono hz1491; replace f1480 := f1480.mono hz1491; replace f1481 := f1481.mono hz1491; replace f1478 := f1478.mono hz1491
        replace hy1479_0 := hy1479_0.trans hz1491
        replace hy1479_1 := hy1479_1.trans hz1491
        replace hz1479 := hz1479.trans hz1491
        refine Ops.allocF [.slice none 0 0, .slice none 0 0, vi 0] hst1491 zr29 rfl rfl (fun g1495 w1495 hst1495 => ?_)
        refine Ops.store 1 [.slice A1492 y1491.Add.length c1492, .slice A1493 y1491.Drop.length c1493, vi y1491.Floor] hst1495 rfl rfl rfl rfl sz29 rfl (by simp [Value.oneCell']) (by simp) (fun w1496 hst1496 => ?_)
        refine Ops.nil ?_
        refine Run.seq ?_
        refine Run.region ?_
        refine Ops.ex (Ex.fieldAddr rfl Try.underlying32 rfl sz4) rfl rfl rfl ?_
        refine Ops.load rfl Try.underlying4 rfl (hst1496.cell (i := 2) rfl rfl) rfl ?_
        refine Ops.ex (Ex.not rfl) rfl rfl rfl ?_
        refine Ops.nil ?_
        refine Run.cond rfl (fun hc => ?_) (fun hc => ?_)
        · replace hf := ifFb (bn_T hc) hf
          refine Run.region ?_
          refine Ops.ex (Ex.move rfl) rfl rfl rfl ?_
          refine Ops.loadAgg _ rfl Try.underlying29 rfl sz29 rfl (hst1496.cells (i := 1) rfl 0 3) rfl ?_
          refine Ops.sliceF [.slice A1492 y1491.Add.length c1492, .slice A1493 y1491.Drop.length c1493, vi y1491.Floor] hst1496 rfl Try.underlying46 sz29 zr29 rfl rfl (by kernel_rfl) rfl (by simp [Value.oneCell']) rfl (fun A1497 w1497 hst1497 => ?_)
          have f1497 : Cs teditsEdit z1491 [.slice A1492 y1491.Add.length c1492, .slice A1493 y1491.Drop.length c1493, vi y1491.Floor] [y1491] := (Cs.cons (c := [.slice A1492 y1491.Add.length c1492, .slice A1493 y1491.Drop.length c1493, vi y1491.Floor]) ⟨_, _, _, _, rfl, f1492, f1493⟩ (Cs.nil _ _))
          obtain ⟨l1498, hy1498, hf⟩ := bnd hf
          refine Ops.app 4 hst1497 rfl f1478 rfl (own_slh f1497 rfl (hst1497.get (i := 1) rfl)) rfl hy1498 rfl rfl rfl rfl Try.underlying46 inf29 rfl (by decide) (by decide) rfl (fun A1498 c1498 d1498 w1498 f1498 hst1498 => ?_)
          refine Ops.ex (Ex.assign rfl) rfl rfl rfl ?_
          refine Ops.nil ?_
          refine Run.endBlk ?_
          refine Run.region ?_
          refine Ops.ex (Ex.add rfl rfl) rfl rfl rfl ?_
          refine Ops.ex (Ex.move rfl) rfl rfl rfl ?_
          refine Ops.nil ?_
          refine Run.re 72 rfl (congrArg vi (wr_succ' hl1134 hc1134)) ?_
          exact Run.sub (by exact subB_spec ⟨rfl, rfl, rfl, rfl, trivial⟩) (Run.stop ⟨l1133.length - (i1134 + 1), by omega, i1134 + 1, l1498, A1498, c1498, d1498, z1491, rfl, by omega, (hnxb1134 _).symm.trans hf, rfl, hz1479, hy1479_0, hy1479_1, f1498, (St.forget (St.forget (St.forget hst1498 3) 2) 1)⟩)
        · replace hf := ifTb (bn_F hc) hf
          refine Run.skip ?_
          refine Run.endBlk ?_
          refine Run.region ?_
          refine Ops.ex (Ex.add rfl rfl) rfl rfl rfl ?_
          refine Ops.ex (Ex.move rfl) rfl rfl rfl ?_
          refine Ops.nil ?_
          refine Run.re 72 rfl (congrArg vi (wr_succ' hl1134 hc1134)) ?_
          exact Run.sub (by exact subB_spec ⟨rfl, rfl, rfl, rfl, trivial⟩) (Run.stop ⟨l1133.length - (i1134 + 1), by omega, i1134 + 1, l1478, A1478, c1478, d1478, z1491, rfl, by omega, (hnxb1134 _).symm.trans hf, rfl, hz1479, hy1479_0, hy1479_1, f1478, (St.forget (St.forget hst1496 2) 1)⟩)
      · replace hf := forL_out hf (nlt_of_dec hc)
        try dsimp only at hf
        refine Run.exit _ rfl ?_
        refine Run.seq ?_
        refine Run.seq ?_
        refine Run.region ?_
        refine Ops.ex (Ex.move rfl) rfl rfl rfl ?_
        refine Ops.ex (Ex.len' rfl rfl rfl Try.underlying46) rfl rfl rfl ?_
        refine Ops.ex (Ex.move rfl) rfl rfl rfl ?_
        refine Ops.nil ?_
        refine Run.block ?_
        have hc1499 := (own_slh f1478 rfl (hst1479.get (i := 1) rfl)).cap
        have hm1500 := Le.refl z1477
        refine Run.sub (e' := [(86, .slice A1478 l1478.length c1478), (87, vi (l1478.length : Int)), (88, vi ((0 : Nat) : Int))]) (subB_spec ⟨rfl, rfl, rfl, trivial⟩) ?_
        refine Run.loop (fun mb1499 => (fun e' w' => ∃ (i1499 : Nat) (z1599 : Zp), mb1499 = l1478.length - i1499 ∧ i1499 ≤ l1478.length ∧ forL (go_law10_EditsBytes.b3) (fun _ => some true) i1499 (l1478.drop i1499) () = some r ∧ e' = [(86, .slice A1478 l1478.length c1478), (87, vi (l1478.length : Int)), (88, vi (i1499 : Int))] ∧ Le z1477 z1599 ∧ Le z0 z1599 ∧ Le z6 z1599 ∧ Le z1132 z1599 ∧ Ht w0 (frz z1599 :: (orow 29 3 (.slice A1478 l1478.length c1478) l1478.length d1478) :: X) w')) l1478.length ⟨0, z1477, rfl, Nat.zero_le _, hf, rfl, hm1500, hy1479_0, hy1479_1, hz1479, hst1479⟩ ?_
        rintro _ e' w1600 ⟨i1499, z1599, rfl, hi1499, hf, rfl, hz1600, hy1600_0, hy1600_1, hy1600_2, hst1600⟩
        replace f1478 := f1478.mono hz1600
        refine Run.seq ?_
        refine Run.region ?_
        refine Ops.ex (Ex.lss rfl rfl) rfl rfl rfl ?_
        refine Ops.nil ?_
        refine Run.seq ?_
        refine Run.cond rfl (fun hc => ?_) (fun hc => ?_)
        · have hl1499 := lt_of_dec hc
          obtain ⟨a1499, nxb1499, ha1499, hnxb1499, hf⟩ := forL_in hf hl1499
          unfold go_law10_EditsBytes.b3 at hf
          try dsimp only at hf
          refine Run.skip ?_
          refine Run.seq ?_
          refine Run.block ?_
          refine Run.seq ?_
          refine Run.region ?_
          obtain ⟨g1604, p1604, o1604, cs1604, hA1604, ho1604, hr1604, f1604⟩ := own_elem f1478 rfl (hst1600.get (i := 1) rfl) (atI_nat ha1499)
          obtain ⟨A1601, c1601, A1602, c1602, rfl, f1601, f1602⟩ := hr1604
          refine Ops.ex (Ex.ixA hA1604 ho1604 (atI_nat ha1499) rfl rfl rfl Try.underlying46 sz29) rfl rfl rfl ?_
          refine Ops.loadAgg [.slice A1601 a1499.Add.length c1601, .slice A1602 a1499.Drop.length c1602, vi a1499.Floor] rfl Try.underlying29 rfl sz29 rfl (cells_of_zc rfl (f1604 _ (hst1600.get (i := 1) rfl))) rfl ?_
          refine Ops.allocF [.slice none 0 0, .slice none 0 0, vi 0] hst1600 zr29 rfl rfl (fun g1605 w1605 hst1605 => ?_)
          refine Ops.store 1 [.slice A1601 a1499.Add.length c1601, .slice A1602 a1499.Drop.length c1602, vi a1499.Floor] hst1605 rfl rfl rfl rfl sz29 rfl (by simp [Value.oneCell']) (by simp) (fun w1606 hst1606 => ?_)
          refine Ops.nil ?_
          refine Run.seq ?_
          refine Run.region ?_
          refine Ops.loadAgg _ rfl Try.underlying29 rfl sz29 rfl (hst1606.cells (i := 1) rfl 0 3) rfl ?_
          obtain ⟨y1607, hy1607, hf⟩ := bnd hf
          refine Ops.call rfl rfl Try.func18 (by kernel_rfl) (by kernel_rfl) rfl (go_edits_Bytes.walk (p0 := a1499) (hst := hst1606) (f1 := f1601) (f2 := f1602) (hf := hy1607)) ?_
          rintro _ w1607 ⟨z1607, A1608, c1608, rfl, hz1607, f1608, hst1607⟩
          refine ⟨_, rfl, ?_⟩
          replace f1601 := f1601.mono hz1607; replace f1602 := f1602.mono hz1607; replace f1478 := f1478.mono hz1607
          replace hy1600_0 := hy1600_0.trans hz1607
          replace hy1600_1 := hy1600_1.trans hz1607
          replace hy1600_2 := hy1600_2.trans hz1607
          replace hz1600 := hz1600.trans hz1607
          refine Ops.ex (Ex.assign rfl) rfl rfl rfl ?_
          refine Ops.nil ?_
          refine Run.seq ?_
          refine Run.region ?_
          refine Ops.ex (Ex.move rfl) rfl rfl rfl ?_
          obtain ⟨y1609, hy1609, hf⟩ := bnd hf
          refine Ops.call rfl rfl Try.func19 (by kernel_rfl) (by kernel_rfl) rfl (go_edits_Read.walk (p0 := y1607) (hst := hst1607) (f1 := f1608) (hf := hy1609)) ?_
          rintro _ w1609 ⟨z1609, A1610, c1610, A1611, c1611, rfl, hz1609, f1610, f1611, hst1609⟩
          refine ⟨_, rfl, ?_⟩
          replace f1601 := f1601.mono hz1609; replace f1602 := f1602.mono hz1609; replace f1608 := f1608.mono hz1609; replace f1478 := f1478.mono hz1609
          replace hy1600_0 := hy1600_0.trans hz1609
          replace hy1600_1 := hy1600_1.trans hz1609
          replace hy1600_2 := hy1600_2.trans hz1609
          replace hz1600 := hz1600.trans hz1609
          refine Ops.ex (Ex.move rfl) rfl rfl rfl ?_
          refine Ops.ex (Ex.extract rfl rfl) rfl rfl rfl ?_
          refine Ops.ex (Ex.extract rfl rfl) rfl rfl rfl ?_
          refine Ops.allocF [.slice none 0 0, .slice none 0 0, vi 0] hst1609 zr29 rfl rfl (fun g1614 w1614 hst1614 => ?_)
          refine Ops.store 1 [.slice A1610 y1609.1.Add.length c1610, .slice A1611 y1609.1.Drop.length c1611, vi y1609.1.Floor] hst1614 rfl rfl rfl rfl sz29 rfl (by simp [Value.oneCell']) (by simp) (fun w1615 hst1615 => ?_)
          refine Ops.ex (Ex.assign rfl) rfl rfl rfl ?_
          refine Ops.nil ?_
          refine Run.seq ?_
          have hm1631 := Le.refl z1609
          apply Run.jn (fun e' w' => ∃ (b1633 : Bool) (z1632 : Zp), go_law10_EditsBytes.j1 nxb1499 b1633 = some r ∧ e' = [(86, .slice A1478 l1478.length c1478), (87, vi (l1478.length : Int)), (88, vi (i1499 : Int)), (114, vb b1633)] ∧ Le z1609 z1632 ∧ Le z0 z1632 ∧ Le z6 z1632 ∧ Le z1132 z1632 ∧ Le z1477 z1632 ∧ Ht w0 (frz z1632 :: (orow 29 3 (.slice A1478 l1478.length c1478) l1478.length d1478) :: X) w')
          · intro hj1616
            refine Run.drawH [([], fun w => ∃ ζ Y, Le z1609 ζ ∧ Ht w0 (frz ζ :: (blk g1614 [.slice A1610 y1609.1.Add.length c1610, .slice A1611 y1609.1.Drop.length c1611, vi y1609.1.Floor] 29) :: (blk g1605 [.slice A1601 a1499.Add.length c1601, .slice A1602 a1499.Drop.length c1602, vi a1499.Floor] 29) :: (orow 29 3 (.slice A1478 l1478.length c1478) l1478.length d1478) :: Y) w)] (by kernel_rfl) hst1615 (fun w1634 hst1634 => ?_)
            have hS0 := (⟨_, _, (Le.refl _), (St.up (St.up (St.up (St.up hst1634 3 rfl) 3 rfl) 3 rfl) 3 rfl)⟩ : (fun w => ∃ ζ Y, Le z1609 ζ ∧ Ht w0 (frz ζ :: (blk g1614 [.slice A1610 y1609.1.Add.length c1610, .slice A1611 y1609.1.Drop.length c1611, vi y1609.1.Floor] 29) :: (blk g1605 [.slice A1601 a1499.Add.length c1601, .slice A1602 a1499.Drop.length c1602, vi a1499.Floor] 29) :: (orow 29 3 (.slice A1478 l1478.length c1478) l1478.length d1478) :: Y) w) _)
            refine Any.takeE 0 rfl rfl rfl rfl (by kernel_rfl) (fun _ _ _ _ _ h => h) ((Ex.move rfl).s) ?_
            refine Any.take 0 2 rfl rfl rfl rfl rfl (by kernel_rfl) (fun _ _ _ _ _ h => h) (ExS.loadAgg [.slice A1601 a1499.Add.length c1601, .slice A1602 a1499.Drop.length c1602, vi a1499.Floor] rfl Try.underlying29 rfl sz29 rfl (fun w hS => by obtain ⟨_, _, _, hs⟩ := hS; exact hs.cells (i := 2) rfl 0 3)) hS0 ?_
            refine Any.all [1, 3] (by kernel_rfl) rfl (fun i hi => ?_)
            simp only [List.mem_cons, List.not_mem_nil, or_false] at hi
            rcases hi with rfl | rfl
            · skip
              refine ⟨_, rfl, rfl, One.of_ops rfl ?_⟩
              refine Ops.str8 (f1608.at_ hst1634) rfl Try.underlying30 Try.underlying5 Try.underlying9 rfl (Ops.stop ?_)
              have hS0 := (⟨_, _, (Le.refl _), (St.up (St.up (St.up (St.up hst1634 3 rfl) 3 rfl) 3 rfl) 3 rfl)⟩ : (fun w => ∃ ζ Y, Le z1609 ζ ∧ Ht w0 (frz ζ :: (blk g1614 [.slice A1610 y1609.1.Add.length c1610, .slice A1611 y1609.1.Drop.length c1611, vi y1609.1.Floor] 29) :: (blk g1605 [.slice A1601 a1499.Add.length c1601, .slice A1602 a1499.Drop.length c1602, vi a1499.Floor] 29) :: (orow 29 3 (.slice A1478 l1478.length c1478) l1478.length d1478) :: Y) w) _)
              refine ⟨⟨.inr (fun _ => hS0), trivial⟩, ?_⟩
              obtain ⟨y1635, hy1635, hf⟩ := bnd hf
              refine Any.one 3 (by kernel_rfl) rfl rfl (One.of_ops rfl ?_)
              refine Ops.call rfl rfl Try.func20 (by kernel_rfl) (by kernel_rfl) rfl (go_law10_bytes.walk (p0 := a1499) (hst := hst1634) (f1 := f1601) (f2 := f1602) (hf := hy1635)) ?_
              rintro _ w1635 ⟨z1635, rfl, hz1635, hst1635⟩
              refine ⟨_, rfl, Ops.stop ?_⟩
              replace f1601 := f1601.mono hz1635; replace f1602 := f1602.mono hz1635; replace f1608 := f1608.mono hz1635; replace f1610 := f1610.mono hz1635; replace f1611 := f1611.mono hz1635; replace f1478 := f1478.mono hz1635
              replace hy1600_0 := hy1600_0.trans hz1635
              replace hy1600_1 := hy1600_1.trans hz1635
              replace hy1600_2 := hy1600_2.trans hz1635
              replace hz1600 := hz1600.trans hz1635
              replace hm1631 := hm1631.trans hz1635
              have hS0 := (⟨_, _, hm1631, (St.up (St.up (St.up (St.up hst1635 3 rfl) 3 rfl) 3 rfl) 3 rfl)⟩ : (fun w => ∃ ζ Y, Le z1609 ζ ∧ Ht w0 (frz ζ :: (blk g1614 [.slice A1610 y1609.1.Add.length c1610, .slice A1611 y1609.1.Drop.length c1611, vi y1609.1.Floor] 29) :: (blk g1605 [.slice A1601 a1499.Add.length c1601, .slice A1602 a1499.Drop.length c1602, vi a1499.Floor] 29) :: (orow 29 3 (.slice A1478 l1478.length c1478) l1478.length d1478) :: Y) w) _)
              refine ⟨⟨.inr (fun _ => hS0), trivial⟩, ?_⟩
              refine Any.takeE 4 rfl rfl rfl rfl (by kernel_rfl) (fun _ _ _ _ _ h => h) ((Ex.neqT rfl rfl).s) ?_
              refine Any.takeE 5 rfl rfl rfl rfl (by kernel_rfl) (fun _ _ _ _ _ h => h) ((Ex.move rfl).s) ?_
              refine Any.case 104 rfl (fun hc => ?_) (fun hc => ?_)
              · replace hf := ifF (neq_T hc) hf
                refine Any.pass 6 rfl rfl rfl rfl (by kernel_rfl) (fun _ _ _ _ _ h => h) ?_
                refine Any.pass 7 rfl rfl rfl rfl (by kernel_rfl) (fun _ _ _ _ _ h => h) ?_
                refine Any.takeE 8 rfl rfl rfl rfl (by kernel_rfl) (fun _ _ _ _ _ h => h) ((Ex.pickT rfl rfl).s) ?_
                refine Any.takeE 9 rfl rfl rfl rfl (by kernel_rfl) (fun _ _ _ _ _ h => h) ((Ex.move rfl).s) ?_
                refine Any.pass 10 rfl rfl rfl rfl (by kernel_rfl) (fun _ _ _ _ _ h => h) ?_
                refine Any.pass 11 rfl rfl rfl rfl (by kernel_rfl) (fun _ _ _ _ _ h => h) ?_
                refine Any.pass 12 rfl rfl rfl rfl (by kernel_rfl) (fun _ _ _ _ _ h => h) ?_
                refine Any.pass 13 rfl rfl rfl rfl (by kernel_rfl) (fun _ _ _ _ _ h => h) ?_
                refine Any.pass 14 rfl rfl rfl rfl (by kernel_rfl) (fun _ _ _ _ _ h => h) ?_
                refine Any.takeE 15 rfl rfl rfl rfl (by kernel_rfl) (fun _ _ _ _ _ h => h) ((Ex.pickT rfl rfl).s) ?_
                refine Any.done (by kernel_rfl) ?_
                exact Run.sub (by exact subB_spec ⟨rfl, rfl, rfl, rfl, trivial⟩) (hj1616 _ _ ⟨true, z1635, hf, rfl, hm1631, hy1600_0, hy1600_1, hy1600_2, hz1600, (St.forget (St.forget hst1635 2) 1)⟩)
              · replace hf := ifT (neq_F hc) hf
                refine Any.takeE 6 rfl rfl rfl rfl (by kernel_rfl) (fun _ _ _ _ _ h => h) (ExS.g ((Ex.move rfl).s)) ?_
                refine Any.takeE 7 rfl rfl rfl rfl (by kernel_rfl) (fun _ _ _ _ _ h => h) (ExS.g ((Ex.not rfl).s)) ?_
                refine Any.takeE 8 rfl rfl rfl rfl (by kernel_rfl) (fun _ _ _ _ _ h => h) ((Ex.pickF rfl rfl).s) ?_
                refine Any.takeE 9 rfl rfl rfl rfl (by kernel_rfl) (fun _ _ _ _ _ h => h) ((Ex.move rfl).s) ?_
                refine Any.case 108 rfl (fun hc => ?_) (fun hc => ?_)
                · replace hf := ifFb (bn_T hc) hf
                  refine Any.pass 10 rfl rfl rfl rfl (by kernel_rfl) (fun _ _ _ _ _ h => h) ?_
                  refine Any.pass 11 rfl rfl rfl rfl (by kernel_rfl) (fun _ _ _ _ _ h => h) ?_
                  refine Any.pass 12 rfl rfl rfl rfl (by kernel_rfl) (fun _ _ _ _ _ h => h) ?_
                  refine Any.pass 13 rfl rfl rfl rfl (by kernel_rfl) (fun _ _ _ _ _ h => h) ?_
                  refine Any.pass 14 rfl rfl rfl rfl (by kernel_rfl) (fun _ _ _ _ _ h => h) ?_
                  refine Any.takeE 15 rfl rfl rfl rfl (by kernel_rfl) (fun _ _ _ _ _ h => h) ((Ex.pickT rfl rfl).s) ?_
                  refine Any.done (by kernel_rfl) ?_
                  exact Run.sub (by exact subB_spec ⟨rfl, rfl, rfl, rfl, trivial⟩) (hj1616 _ _ ⟨true, z1635, hf, rfl, hm1631, hy1600_0, hy1600_1, hy1600_2, hz1600, (St.forget (St.forget hst1635 2) 1)⟩)
                · replace hf := ifTb (bn_F hc) hf
                  refine Any.take 0 10 rfl rfl rfl rfl rfl (by kernel_rfl) (fun _ _ _ _ _ h => h) (ExS.g (ExS.loadAgg [.slice A1610 y1609.1.Add.length c1610, .slice A1611 y1609.1.Drop.length c1611, vi y1609.1.Floor] rfl Try.underlying29 rfl sz29 rfl (fun w hS => by obtain ⟨_, _, _, hs⟩ := hS; exact hs.cells (i := 1) rfl 0 3))) hS0 ?_
                  refine Any.take 0 12 rfl rfl rfl rfl rfl (by kernel_rfl) (fun _ _ _ _ _ h => h) (ExS.g (ExS.loadAgg [.slice A1601 a1499.Add.length c1601, .slice A1602 a1499.Drop.length c1602, vi a1499.Floor] rfl Try.underlying29 rfl sz29 rfl (fun w hS => by obtain ⟨_, _, _, hs⟩ := hS; exact hs.cells (i := 2) rfl 0 3))) hS0 ?_
                  obtain ⟨y1637, hy1637, hf⟩ := bnd hf
                  refine Any.one 11 (by kernel_rfl) rfl rfl (One.g <| One.of_ops rfl ?_)
                  refine Ops.call rfl rfl Try.func20 (by kernel_rfl) (by kernel_rfl) rfl (go_law10_bytes.walk (p0 := y1609.1) (hst := hst1635) (f1 := f1610) (f2 := f1611) (hf := hy1637)) ?_
                  rintro _ w1637 ⟨z1637, rfl, hz1637, hst1637⟩
                  refine ⟨_, rfl, Ops.stop ?_⟩
                  replace f1601 := f1601.mono hz1637; replace f1602 := f1602.mono hz1637; replace f1608 := f1608.mono hz1637; replace f1610 := f1610.mono hz1637; replace f1611 := f1611.mono hz1637; replace f1478 := f1478.mono hz1637
                  replace hy1600_0 := hy1600_0.trans hz1637
                  replace hy1600_1 := hy1600_1.trans hz1637
                  replace hy1600_2 := hy1600_2.trans hz1637
                  replace hz1600 := hz1600.trans hz1637
                  replace hm1631 := hm1631.trans hz1637
                  have hS0 := (⟨_, _, hm1631, (St.up (St.up (St.up (St.up hst1637 3 rfl) 3 rfl) 3 rfl) 3 rfl)⟩ : (fun w => ∃ ζ Y, Le z1609 ζ ∧ Ht w0 (frz ζ :: (blk g1614 [.slice A1610 y1609.1.Add.length c1610, .slice A1611 y1609.1.Drop.length c1611, vi y1609.1.Floor] 29) :: (blk g1605 [.slice A1601 a1499.Add.length c1601, .slice A1602 a1499.Drop.length c1602, vi a1499.Floor] 29) :: (orow 29 3 (.slice A1478 l1478.length c1478) l1478.length d1478) :: Y) w) _)
                  refine ⟨⟨.inr (fun _ => hS0), trivial⟩, ?_⟩
                  obtain ⟨y1639, hy1639, hf⟩ := bnd hf
                  refine Any.one 13 (by kernel_rfl) rfl rfl (One.g <| One.of_ops rfl ?_)
                  refine Ops.call rfl rfl Try.func20 (by kernel_rfl) (by kernel_rfl) rfl (go_law10_bytes.walk (p0 := a1499) (hst := hst1637) (f1 := f1601) (f2 := f1602) (hf := hy1639)) ?_
                  rintro _ w1639 ⟨z1639, rfl, hz1639, hst1639⟩
                  refine ⟨_, rfl, Ops.stop ?_⟩
                  replace f1601 := f1601.mono hz1639; replace f1602 := f1602.mono hz1639; replace f1608 := f1608.mono hz1639; replace f1610 := f1610.mono hz1639; replace f1611 := f1611.mono hz1639; replace f1478 := f1478.mono hz1639
                  replace hy1600_0 := hy1600_0.trans hz1639
                  replace hy1600_1 := hy1600_1.trans hz1639
                  replace hy1600_2 := hy1600_2.trans hz1639
                  replace hz1600 := hz1600.trans hz1639
                  replace hm1631 := hm1631.trans hz1639
                  have hS0 := (⟨_, _, hm1631, (St.up (St.up (St.up (St.up hst1639 3 rfl) 3 rfl) 3 rfl) 3 rfl)⟩ : (fun w => ∃ ζ Y, Le z1609 ζ ∧ Ht w0 (frz ζ :: (blk g1614 [.slice A1610 y1609.1.Add.length c1610, .slice A1611 y1609.1.Drop.length c1611, vi y1609.1.Floor] 29) :: (blk g1605 [.slice A1601 a1499.Add.length c1601, .slice A1602 a1499.Drop.length c1602, vi a1499.Floor] 29) :: (orow 29 3 (.slice A1478 l1478.length c1478) l1478.length d1478) :: Y) w) _)
                  refine ⟨⟨.inr (fun _ => hS0), trivial⟩, ?_⟩
                  refine Any.takeE 14 rfl rfl rfl rfl (by kernel_rfl) (fun _ _ _ _ _ h => h) (ExS.g ((Ex.neqT rfl rfl).s)) ?_
                  refine Any.takeE 15 rfl rfl rfl rfl (by kernel_rfl) (fun _ _ _ _ _ h => h) ((Ex.pickF rfl rfl).s) ?_
                  refine Any.done (by kernel_rfl) ?_
                  exact Run.sub (by exact subB_spec ⟨rfl, rfl, rfl, rfl, trivial⟩) (hj1616 _ _ ⟨!(decide (y1637 = y1639)), z1639, hf, rfl, hm1631, hy1600_0, hy1600_1, hy1600_2, hz1600, (St.forget (St.forget hst1639 2) 1)⟩)
            · skip
              obtain ⟨y1641, hy1641, hf⟩ := bnd hf
              refine ⟨_, rfl, rfl, One.of_ops rfl ?_⟩
              refine Ops.call rfl rfl Try.func20 (by kernel_rfl) (by kernel_rfl) rfl (go_law10_bytes.walk (p0 := a1499) (hst := hst1634) (f1 := f1601) (f2 := f1602) (hf := hy1641)) ?_
              rintro _ w1641 ⟨z1641, rfl, hz1641, hst1641⟩
              refine ⟨_, rfl, Ops.stop ?_⟩
              replace f1601 := f1601.mono hz1641; replace f1602 := f1602.mono hz1641; replace f1608 := f1608.mono hz1641; replace f1610 := f1610.mono hz1641; replace f1611 := f1611.mono hz1641; replace f1478 := f1478.mono hz1641
              replace hy1600_0 := hy1600_0.trans hz1641
              replace hy1600_1 := hy1600_1.trans hz1641
              replace hy1600_2 := hy1600_2.trans hz1641
              replace hz1600 := hz1600.trans hz1641
              replace hm1631 := hm1631.trans hz1641
              have hS0 := (⟨_, _, hm1631, (St.up (St.up (St.up (St.up hst1641 3 rfl) 3 rfl) 3 rfl) 3 rfl)⟩ : (fun w => ∃ ζ Y, Le z1609 ζ ∧ Ht w0 (frz ζ :: (blk g1614 [.slice A1610 y1609.1.Add.length c1610, .slice A1611 y1609.1.Drop.length c1611, vi y1609.1.Floor] 29) :: (blk g1605 [.slice A1601 a1499.Add.length c1601, .slice A1602 a1499.Drop.length c1602, vi a1499.Floor] 29) :: (orow 29 3 (.slice A1478 l1478.length c1478) l1478.length d1478) :: Y) w) _)
              refine ⟨⟨.inr (fun _ => hS0), trivial⟩, ?_⟩
              refine Any.one 1 (by kernel_rfl) rfl rfl (One.of_ops rfl ?_)
              refine Ops.str8 (f1608.at_ hst1641) rfl Try.underlying30 Try.underlying5 Try.underlying9 rfl (Ops.stop ?_)
              have hS0 := (⟨_, _, hm1631, (St.up (St.up (St.up (St.up hst1641 3 rfl) 3 rfl) 3 rfl) 3 rfl)⟩ : (fun w => ∃ ζ Y, Le z1609 ζ ∧ Ht w0 (frz ζ :: (blk g1614 [.slice A1610 y1609.1.Add.length c1610, .slice A1611 y1609.1.Drop.length c1611, vi y1609.1.Floor] 29) :: (blk g1605 [.slice A1601 a1499.Add.length c1601, .slice A1602 a1499.Drop.length c1602, vi a1499.Floor] 29) :: (orow 29 3 (.slice A1478 l1478.length c1478) l1478.length d1478) :: Y) w) _)
              refine ⟨⟨.inr (fun _ => hS0), trivial⟩, ?_⟩
              refine Any.takeE 4 rfl rfl rfl rfl (by kernel_rfl) (fun _ _ _ _ _ h => h) ((Ex.neqT rfl rfl).s) ?_
              refine Any.takeE 5 rfl rfl rfl rfl (by kernel_rfl) (fun _ _ _ _ _ h => h) ((Ex.move rfl).s) ?_
              refine Any.case 104 rfl (fun hc => ?_) (fun hc => ?_)
              · replace hf := ifF (neq_T hc) hf
                refine Any.pass 6 rfl rfl rfl rfl (by kernel_rfl) (fun _ _ _ _ _ h => h) ?_
                refine Any.pass 7 rfl rfl rfl rfl (by kernel_rfl) (fun _ _ _ _ _ h => h) ?_
                refine Any.takeE 8 rfl rfl rfl rfl (by kernel_rfl) (fun _ _ _ _ _ h => h) ((Ex.pickT rfl rfl).s) ?_
                refine Any.takeE 9 rfl rfl rfl rfl (by kernel_rfl) (fun _ _ _ _ _ h => h) ((Ex.move rfl).s) ?_
                refine Any.pass 10 rfl rfl rfl rfl (by kernel_rfl) (fun _ _ _ _ _ h => h) ?_
                refine Any.pass 11 rfl rfl rfl rfl (by kernel_rfl) (fun _ _ _ _ _ h => h) ?_
                refine Any.pass 12 rfl rfl rfl rfl (by kernel_rfl) (fun _ _ _ _ _ h => h) ?_
                refine Any.pass 13 rfl rfl rfl rfl (by kernel_rfl) (fun _ _ _ _ _ h => h) ?_
                refine Any.pass 14 rfl rfl rfl rfl (by kernel_rfl) (fun _ _ _ _ _ h => h) ?_
                refine Any.takeE 15 rfl rfl rfl rfl (by kernel_rfl) (fun _ _ _ _ _ h => h) ((Ex.pickT rfl rfl).s) ?_
                refine Any.done (by kernel_rfl) ?_
                exact Run.sub (by exact subB_spec ⟨rfl, rfl, rfl, rfl, trivial⟩) (hj1616 _ _ ⟨true, z1641, hf, rfl, hm1631, hy1600_0, hy1600_1, hy1600_2, hz1600, (St.forget (St.forget hst1641 2) 1)⟩)
              · replace hf := ifT (neq_F hc) hf
                refine Any.takeE 6 rfl rfl rfl rfl (by kernel_rfl) (fun _ _ _ _ _ h => h) (ExS.g ((Ex.move rfl).s)) ?_
                refine Any.takeE 7 rfl rfl rfl rfl (by kernel_rfl) (fun _ _ _ _ _ h => h) (ExS.g ((Ex.not rfl).s)) ?_
                refine Any.takeE 8 rfl rfl rfl rfl (by kernel_rfl) (fun _ _ _ _ _ h => h) ((Ex.pickF rfl rfl).s) ?_
                refine Any.takeE 9 rfl rfl rfl rfl (by kernel_rfl) (fun _ _ _ _ _ h => h) ((Ex.move rfl).s) ?_
                refine Any.case 108 rfl (fun hc => ?_) (fun hc => ?_)
                · replace hf := ifFb (bn_T hc) hf
                  refine Any.pass 10 rfl rfl rfl rfl (by kernel_rfl) (fun _ _ _ _ _ h => h) ?_
                  refine Any.pass 11 rfl rfl rfl rfl (by kernel_rfl) (fun _ _ _ _ _ h => h) ?_
                  refine Any.pass 12 rfl rfl rfl rfl (by kernel_rfl) (fun _ _ _ _ _ h => h) ?_
                  refine Any.pass 13 rfl rfl rfl rfl (by kernel_rfl) (fun _ _ _ _ _ h => h) ?_
                  refine Any.pass 14 rfl rfl rfl rfl (by kernel_rfl) (fun _ _ _ _ _ h => h) ?_
                  refine Any.takeE 15 rfl rfl rfl rfl (by kernel_rfl) (fun _ _ _ _ _ h => h) ((Ex.pickT rfl rfl).s) ?_
                  refine Any.done (by kernel_rfl) ?_
                  exact Run.sub (by exact subB_spec ⟨rfl, rfl, rfl, rfl, trivial⟩) (hj1616 _ _ ⟨true, z1641, hf, rfl, hm1631, hy1600_0, hy1600_1, hy1600_2, hz1600, (St.forget (St.forget hst1641 2) 1)⟩)
                · replace hf := ifTb (bn_F hc) hf
                  refine Any.take 0 10 rfl rfl rfl rfl rfl (by kernel_rfl) (fun _ _ _ _ _ h => h) (ExS.g (ExS.loadAgg [.slice A1610 y1609.1.Add.length c1610, .slice A1611 y1609.1.Drop.length c1611, vi y1609.1.Floor] rfl Try.underlying29 rfl sz29 rfl (fun w hS => by obtain ⟨_, _, _, hs⟩ := hS; exact hs.cells (i := 1) rfl 0 3))) hS0 ?_
                  refine Any.take 0 12 rfl rfl rfl rfl rfl (by kernel_rfl) (fun _ _ _ _ _ h => h) (ExS.g (ExS.loadAgg [.slice A1601 a1499.Add.length c1601, .slice A1602 a1499.Drop.length c1602, vi a1499.Floor] rfl Try.underlying29 rfl sz29 rfl (fun w hS => by obtain ⟨_, _, _, hs⟩ := hS; exact hs.cells (i := 2) rfl 0 3))) hS0 ?_
                  obtain ⟨y1643, hy1643, hf⟩ := bnd hf
                  refine Any.one 11 (by kernel_rfl) rfl rfl (One.g <| One.of_ops rfl ?_)
                  refine Ops.call rfl rfl Try.func20 (by kernel_rfl) (by kernel_rfl) rfl (go_law10_bytes.walk (p0 := y1609.1) (hst := hst1641) (f1 := f1610) (f2 := f1611) (hf := hy1643)) ?_
                  rintro _ w1643 ⟨z1643, rfl, hz1643, hst1643⟩
                  refine ⟨_, rfl, Ops.stop ?_⟩
                  replace f1601 := f1601.mono hz1643; replace f1602 := f1602.mono hz1643; replace f1608 := f1608.mono hz1643; replace f1610 := f1610.mono hz1643; replace f1611 := f1611.mono hz1643; replace f1478 := f1478.mono hz1643
                  replace hy1600_0 := hy1600_0.trans hz1643
                  replace hy1600_1 := hy1600_1.trans hz1643
                  replace hy1600_2 := hy1600_2.trans hz1643
                  replace hz1600 := hz1600.trans hz1643
                  replace hm1631 := hm1631.trans hz1643
                  have hS0 := (⟨_, _, hm1631, (St.up (St.up (St.up (St.up hst1643 3 rfl) 3 rfl) 3 rfl) 3 rfl)⟩ : (fun w => ∃ ζ Y, Le z1609 ζ ∧ Ht w0 (frz ζ :: (blk g1614 [.slice A1610 y1609.1.Add.length c1610, .slice A1611 y1609.1.Drop.length c1611, vi y1609.1.Floor] 29) :: (blk g1605 [.slice A1601 a1499.Add.length c1601, .slice A1602 a1499.Drop.length c1602, vi a1499.Floor] 29) :: (orow 29 3 (.slice A1478 l1478.length c1478) l1478.length d1478) :: Y) w) _)
                  refine ⟨⟨.inr (fun _ => hS0), trivial⟩, ?_⟩
                  obtain ⟨y1645, hy1645, hf⟩ := bnd hf
                  refine Any.one 13 (by kernel_rfl) rfl rfl (One.g <| One.of_ops rfl ?_)
                  refine Ops.call rfl rfl Try.func20 (by kernel_rfl) (by kernel_rfl) rfl (go_law10_bytes.walk (p0 := a1499) (hst := hst1643) (f1 := f1601) (f2 := f1602) (hf := hy1645)) ?_
                  rintro _ w1645 ⟨z1645, rfl, hz1645, hst1645⟩
                  refine ⟨_, rfl, Ops.stop ?_⟩
                  replace f1601 := f1601.mono hz1645; replace f1602 := f1602.mono hz1645; replace f1608 := f1608.mono hz1645; replace f1610 := f1610.mono hz1645; replace f1611 := f1611.mono hz1645; replace f1478 := f1478.mono hz1645
                  replace hy1600_0 := hy1600_0.trans hz1645
                  replace hy1600_1 := hy1600_1.trans hz1645
                  replace hy1600_2 := hy1600_2.trans hz1645
                  replace hz1600 := hz1600.trans hz1645
                  replace hm1631 := hm1631.trans hz1645
                  have hS0 := (⟨_, _, hm1631, (St.up (St.up (St.up (St.up hst1645 3 rfl) 3 rfl) 3 rfl) 3 rfl)⟩ : (fun w => ∃ ζ Y, Le z1609 ζ ∧ Ht w0 (frz ζ :: (blk g1614 [.slice A1610 y1609.1.Add.length c1610, .slice A1611 y1609.1.Drop.length c1611, vi y1609.1.Floor] 29) :: (blk g1605 [.slice A1601 a1499.Add.length c1601, .slice A1602 a1499.Drop.length c1602, vi a1499.Floor] 29) :: (orow 29 3 (.slice A1478 l1478.length c1478) l1478.length d1478) :: Y) w) _)
                  refine ⟨⟨.inr (fun _ => hS0), trivial⟩, ?_⟩
                  refine Any.takeE 14 rfl rfl rfl rfl (by kernel_rfl) (fun _ _ _ _ _ h => h) (ExS.g ((Ex.neqT rfl rfl).s)) ?_
                  refine Any.takeE 15 rfl rfl rfl rfl (by kernel_rfl) (fun _ _ _ _ _ h => h) ((Ex.pickF rfl rfl).s) ?_
                  refine Any.done (by kernel_rfl) ?_
                  exact Run.sub (by exact subB_spec ⟨rfl, rfl, rfl, rfl, trivial⟩) (hj1616 _ _ ⟨!(decide (y1643 = y1645)), z1645, hf, rfl, hm1631, hy1600_0, hy1600_1, hy1600_2, hz1600, (St.forget (St.forget hst1645 2) 1)⟩)
          · rintro e' w1647 ⟨b1633, z1632, hf, rfl, hz1647, hy1647_0, hy1647_1, hy1647_2, hy1647_3, hst1647⟩
            replace f1478 := f1478.mono hz1647
            unfold go_law10_EditsBytes.j1 at hf
            refine Run.cond rfl (fun hc => ?_) (fun hc => ?_)
            · replace hf := ifTb hc hf
              refine Run.seq ?_
              refine Run.region ?_
              refine Ops.ex (Ex.assign rfl) rfl rfl rfl ?_
              refine Ops.nil ?_
              obtain rfl := Option.some.inj hf
              exact Run.retV [vb false] rfl ⟨rfl, trivial⟩ ⟨z1632, rfl, hy1647_0, (St.forget hst1647 1)⟩
            · replace hf := ifFb hc hf
              refine Run.skip ?_
              refine Run.endBlk ?_
              refine Run.region ?_
              refine Ops.ex (Ex.add rfl rfl) rfl rfl rfl ?_
              refine Ops.ex (Ex.move rfl) rfl rfl rfl ?_
              refine Ops.nil ?_
              refine Run.re 88 rfl (congrArg vi (wr_succ' hl1499 hc1499)) ?_
              exact Run.sub (by exact subB_spec ⟨rfl, rfl, rfl, trivial⟩) (Run.stop ⟨l1478.length - (i1499 + 1), by omega, i1499 + 1, z1632, rfl, by omega, (hnxb1499 _).symm.trans hf, rfl, hy1647_3, hy1647_0, hy1647_1, hy1647_2, hst1647⟩)
        · replace hf := forL_out hf (nlt_of_dec hc)
          try dsimp only at hf
          refine Run.exit _ rfl ?_
          refine Run.seq ?_
          refine Run.region ?_
          refine Ops.ex (Ex.assign rfl) rfl rfl rfl ?_
          refine Ops.nil ?_
          obtain rfl := Option.some.inj hf
          exact Run.retV [vb true] rfl ⟨rfl, trivial⟩ ⟨z1599, rfl, hy1600_0, (St.forget hst1600 1)⟩
def go_law10_EditsRead.j1 (nxb281 : Unit → Option Bool) (b357 : Bool) : Option Bool :=
  if b357 then (some false) else (nxb281 ())
def go_law10_EditsRead.b2 (i281 : Nat) (a281 : List UInt8) : Unit → (Unit → Option Bool) → Option Bool :=
  fun _ nxb281 => (go_edits_Read a281).bind fun y341 => if y341.2 then ((go_law10_bytes y341.1).bind fun y359 => if y359 = a281 then (if y341.2 then (go_law10_EditsRead.j1 nxb281 false) else (if y341.1.Floor = 0 then (if (y341.1.Add.length : Int) = 0 then (go_law10_EditsRead.j1 nxb281 (!(decide ((y341.1.Drop.length : Int) = 0)))) else (go_law10_EditsRead.j1 nxb281 true)) else (go_law10_EditsRead.j1 nxb281 true))) else (go_law10_EditsRead.j1 nxb281 true)) else (if y341.2 then (go_law10_EditsRead.j1 nxb281 false) else (if y341.1.Floor = 0 then (if (y341.1.Add.length : Int) = 0 then (go_law10_EditsRead.j1 nxb281 (!(decide ((y341.1.Drop.length : Int) = 0)))) else (go_law10_EditsRead.j1 nxb281 true)) else (go_law10_EditsRead.j1 nxb281 true)))
def go_law10_EditsRead.b1 (p2 : UInt16) (p3 : UInt8) (i9 : Nat) (a9 : law10Step) : (List (List UInt8)) → (List (List UInt8) → Option Bool) → Option Bool :=
  fun l247 nxb9 => (go_law10_Step_Edit a9).bind fun y260 => (go_edits_Bytes y260).bind fun y264 => if (y264.length : Int) = 0 then (some false) else ((apB 1 [] y264).bind fun l266 => (nzI (l266.length : Int)).bind fun _ => (atI l266 (Int.tmod (p2.toNat : Int) (l266.length : Int))).bind fun y270 => (putI l266 (Int.tmod (p2.toNat : Int) (l266.length : Int)) (y270 ^^^ p3)).bind fun l275 => (nzI (y264.length : Int)).bind fun _ => (cutI y264 0 (Int.tmod (p2.toNat : Int) (y264.length : Int))).bind fun l277 => (apB 24 l247 [l275, l277]).bind fun l280 => nxb9 l280)
def go_law10_EditsRead (p0 : List UInt8) (p1 : List law10Step) (p2 : UInt16) (p3 : UInt8) : Option Bool :=
  (go_law10_awake).bind fun y5 => if y5 then ((cutI p1 0 (min (p1.length : Int) 20)).bind fun l8 => forL (go_law10_EditsRead.b1 p2 p3) (fun l247 => forL (go_law10_EditsRead.b2) (fun _ => some true) 0 l247 ()) 0 l8 [p0]) else (some false)
set_option maxRecDepth 100000 in
set_option maxHeartbeats 4000000 in
theorem go_law10_EditsRead.walk {w0 w : World} {X : List Res} {z0 : Zp} {p0 : List UInt8} {A1 : Option Addr} {c1 : Nat} {p1 : List law10Step} {A2 : Option Addr} {c2 : Nat} {p2 : UInt16} {p3 : UInt8} {r : Bool} (hst : Ht w0 (frz z0 :: X) w) (f1 : Sl tU8 z0 A1 c1 p0) (f2 : Sl tlaw10Step z0 A2 c2 p1) (hf : go_law10_EditsRead p0 p1 p2 p3 = some r) :
    Calls Try.prog 8 #[.slice A1 p0.length c1, .slice A2 p1.length c2, vu16 p2, vu8 p3] w fun e w' => ∃ (z' : Zp), e = .returned (vb r) ∧ Le z0 z' ∧ Ht w0 (frz z' :: X) w' := by
  refine calls_np Try.func8 rfl rfl ?_
  have hle0 := Le.refl z0
  unfold go_law10_EditsRead at hf
  refine Run.seq ?_
  refine Run.region ?_
  refine Ops.ex (Ex.assign rfl) rfl rfl rfl ?_
  refine Ops.nil ?_
  refine Run.seq ?_
  refine Run.seq ?_
  refine Run.region ?_
  obtain ⟨y5, hy5, hf⟩ := bnd hf
  refine Ops.call rfl rfl Try.func11 (by kernel_rfl) (by kernel_rfl) rfl (go_law10_awake.walk (hst := hst) (hf := hy5)) ?_
  rintro _ w5 ⟨z5, rfl, hz5, hst5⟩
  refine ⟨_, rfl, ?_⟩
  replace f1 := f1.mono hz5; replace f2 := f2.mono hz5
  replace hle0 := hle0.trans hz5
  refine Ops.ex (Ex.not rfl) rfl rfl rfl ?_
  refine Ops.nil ?_
  refine Run.cond rfl (fun hc => ?_) (fun hc => ?_)
  · replace hf := ifFb (bn_T hc) hf
    refine Run.seq ?_
    refine Run.region ?_
    refine Ops.ex (Ex.assign rfl) rfl rfl rfl ?_
    refine Ops.nil ?_
    obtain rfl := Option.some.inj hf
    exact Run.retV [vb false] rfl ⟨rfl, trivial⟩ ⟨z5, rfl, hle0, hst5⟩
  · replace hf := ifTb (bn_F hc) hf
    refine Run.skip ?_
    refine Run.seq ?_
    refine Run.region ?_
    refine Ops.ex (Ex.move rfl) rfl rfl rfl ?_
    refine Ops.sliceF [.slice A1 p0.length c1] hst5 rfl Try.underlying53 sz30 zr30 rfl rfl (by kernel_rfl) rfl (by simp [Value.oneCell']) rfl (fun A7 w7 hst7 => ?_)
    have f7 : Cs (tSl tU8) z5 [.slice A1 p0.length c1] [p0] := (Cs.cons (c := [.slice A1 p0.length c1]) ⟨_, _, rfl, f1⟩ (Cs.nil _ _))
    refine Ops.ex (Ex.assign rfl) rfl rfl rfl ?_
    refine Ops.nil ?_
    refine Run.seq ?_
    refine Run.seq ?_
    refine Run.region ?_
    refine Ops.ex (Ex.move rfl) rfl rfl rfl ?_
    refine Ops.ex (Ex.move rfl) rfl rfl rfl ?_
    refine Ops.ex (Ex.len' rfl rfl rfl Try.underlying36) rfl rfl rfl ?_
    refine Ops.ex (Ex.min2 rfl rfl rfl) rfl rfl rfl ?_
    obtain ⟨l8, hy8, hf⟩ := bnd hf
    obtain ⟨A8, c8, hA8, hB8, f8⟩ := SlH.sub f2.toH hy8
    replace f8 := f8.toS
    refine Ops.ex (Ex.subA hA8 hB8 hy8 rfl rfl Try.underlying36 sz32 rfl rfl) rfl rfl rfl ?_
    refine Ops.ex (Ex.len' rfl rfl rfl Try.underlying36) rfl rfl rfl ?_
    refine Ops.ex (Ex.move rfl) rfl rfl rfl ?_
    refine Ops.nil ?_
    refine Run.block ?_
    have hc9 := f8.cap
    have hm10 := Le.refl z5
    refine Run.sub (e' := [(2, vu16 p2), (3, vu8 p3), (9, .slice A7 [p0].length 1), (26, .slice A8 l8.length c8), (27, vi (l8.length : Int)), (28, vi ((0 : Nat) : Int))]) (subB_spec ⟨rfl, rfl, rfl, rfl, rfl, rfl, trivial⟩) ?_
    refine Run.loop (fun mb9 => (fun e' w' => ∃ (i9 : Nat) (l247 : List (List UInt8)) (A247 : Option Addr) (c247 : Nat) (d247 : List Value) (z246 : Zp), mb9 = l8.length - i9 ∧ i9 ≤ l8.length ∧ forL (go_law10_EditsRead.b1 p2 p3) (fun l247 => forL (go_law10_EditsRead.b2) (fun _ => some true) 0 l247 ()) i9 (l8.drop i9) l247 = some r ∧ e' = [(2, vu16 p2), (3, vu8 p3), (9, .slice A247 l247.length c247), (26, .slice A8 l8.length c8), (27, vi (l8.length : Int)), (28, vi (i9 : Int))] ∧ Le z5 z246 ∧ Le z0 z246 ∧ Cs (tSl tU8) z246 d247 l247 ∧ Ht w0 (frz z246 :: (orow 30 1 (.slice A247 l247.length c247) l247.length d247) :: X) w')) l8.length ⟨0, [p0], A7, 1, [.slice A1 p0.length c1], z5, rfl, Nat.zero_le _, hf, rfl, hm10, hle0, f7, hst7⟩ ?_
    rintro _ e' w248 ⟨i9, l247, A247, c247, d247, z246, rfl, hi9, hf, rfl, hz248, hy248_0, f247, hst248⟩
    replace f8 := f8.mono hz248
    refine Run.seq ?_
    refine Run.region ?_
    refine Ops.ex (Ex.lss rfl rfl) rfl rfl rfl ?_
    refine Ops.nil ?_
    refine Run.seq ?_
    refine Run.cond rfl (fun hc => ?_) (fun hc => ?_)
    · have hl9 := lt_of_dec hc
      obtain ⟨a9, nxb9, ha9, hnxb9, hf⟩ := forL_in hf hl9
      unfold go_law10_EditsRead.b1 at hf
      try dsimp only at hf
      refine Run.skip ?_
      refine Run.seq ?_
      refine Run.block ?_
      refine Run.seq ?_
      refine Run.region ?_
      obtain ⟨g257, p257, o257, cs257, hA257, ho257, hr257, f257⟩ := SlH.elem f8.toH (atI_nat ha9)
      obtain ⟨A249, c249, A250, c250, rfl, f249, f250⟩ := hr257
      refine Ops.ex (Ex.ixA hA257 ho257 (atI_nat ha9) rfl rfl rfl Try.underlying36 sz32) rfl rfl rfl ?_
      refine Ops.loadAgg [.slice A249 a9.Add.length c249, .slice A250 a9.Drop.length c250, vu8 a9.Floor, vb a9.Odd, vs a9.Any.Name, vi a9.Any.Kind, vi a9.Any.From, vi a9.Any.To] rfl Try.underlying32 rfl sz32 rfl (cells_of_zc rfl (f257.mono hst248.le)) rfl ?_
      refine Ops.allocF [.slice none 0 0, .slice none 0 0, vu8 0, vb false, vs [], vi 0, vi 0, vi 0] hst248 zr32 rfl rfl (fun g258 w258 hst258 => ?_)
      refine Ops.store 1 [.slice A249 a9.Add.length c249, .slice A250 a9.Drop.length c250, vu8 a9.Floor, vb a9.Odd, vs a9.Any.Name, vi a9.Any.Kind, vi a9.Any.From, vi a9.Any.To] hst258 rfl rfl rfl rfl sz32 rfl (by simp [Value.oneCell']) (by simp) (fun w259 hst259 => ?_)
      refine Ops.nil ?_
      refine Run.seq ?_
      refine Run.region ?_
      refine Ops.loadAgg _ rfl Try.underlying32 rfl sz32 rfl (hst259.cells (i := 1) rfl 0 8) rfl ?_
      obtain ⟨y260, hy260, hf⟩ := bnd hf
      refine Ops.call rfl rfl Try.func12 (by kernel_rfl) (by kernel_rfl) rfl (go_law10_Step_Edit.walk (p0 := a9) (hst := hst259) (f1 := f249) (f2 := f250) (hf := hy260)) ?_
      rintro _ w260 ⟨z260, A261, c261, A262, c262, rfl, hz260, f261, f262, hst260⟩
      refine ⟨_, rfl, ?_⟩
      replace f8 := f8.mono hz260; replace f257 := f257.mono hz260; replace f249 := f249.mono hz260; replace f250 := f250.mono hz260; replace f247 := f247.mono hz260
      replace hy248_0 := hy248_0.trans hz260
      replace hz248 := hz248.trans hz260
      obtain ⟨y264, hy264, hf⟩ := bnd hf
      refine Ops.call rfl rfl Try.func18 (by kernel_rfl) (by kernel_rfl) rfl (go_edits_Bytes.walk (p0 := y260) (hst := hst260) (f1 := f261) (f2 := f262) (hf := hy264)) ?_
      rintro _ w264 ⟨z264, A265, c265, rfl, hz264, f265, hst264⟩
      refine ⟨_, rfl, ?_⟩
      replace f8 := f8.mono hz264; replace f257 := f257.mono hz264; replace f249 := f249.mono hz264; replace f250 := f250.mono hz264; replace f261 := f261.mono hz264; replace f262 := f262.mono hz264; replace f247 := f247.mono hz264
      replace hy248_0 := hy248_0.trans hz264
      replace hz248 := hz248.trans hz264
      refine Ops.ex (Ex.assign rfl) rfl rfl rfl ?_
      refine Ops.nil ?_
      refine Run.seq ?_
      refine Run.seq ?_
      refine Run.region ?_
      refine Ops.ex (Ex.move rfl) rfl rfl rfl ?_
      refine Ops.ex (Ex.len' rfl rfl rfl Try.underlying30) rfl rfl rfl ?_
      refine Ops.ex (Ex.eqlI rfl rfl) rfl rfl rfl ?_
      refine Ops.nil ?_
      refine Run.cond rfl (fun hc => ?_) (fun hc => ?_)
      · replace hf := ifT (dec_T hc) hf
        refine Run.seq ?_
        refine Run.region ?_
        refine Ops.ex (Ex.assign rfl) rfl rfl rfl ?_
        refine Ops.nil ?_
        obtain rfl := Option.some.inj hf
        exact Run.retV [vb false] rfl ⟨rfl, trivial⟩ ⟨z264, rfl, hy248_0, (St.forget (St.forget hst264 2) 1)⟩
      · replace hf := ifF (dec_F hc) hf
        refine Run.skip ?_
        refine Run.seq ?_
        refine Run.region ?_
        refine Ops.ex (Ex.move rfl) rfl rfl rfl ?_
        have hst267 := hst264.row0 5 1
        obtain ⟨l266, hy266, hf⟩ := bnd hf
        refine Ops.app 1 hst267 rfl (Cs.nil tU8 z264) rfl (f265.at_ hst267) rfl hy266 rfl rfl rfl rfl Try.underlying30 inf5 rfl (by decide) (by decide) rfl (fun A266 c266 d266 w266 f266 hst266 => ?_)
        refine Ops.ex (Ex.assign rfl) rfl rfl rfl ?_
        refine Ops.nil ?_
        refine Run.seq ?_
        refine Run.region ?_
        refine Ops.ex (Ex.move rfl) rfl rfl rfl ?_
        refine Ops.ex (Ex.move rfl) rfl rfl rfl ?_
        refine Ops.ex (Ex.cu16 rfl Try.underlying52 Try.underlying3) rfl rfl rfl ?_
        refine Ops.ex (Ex.move rfl) rfl rfl rfl ?_
        refine Ops.ex (Ex.len' rfl rfl rfl Try.underlying30) rfl rfl rfl ?_
        obtain ⟨_, hy269, hf⟩ := bnd hf
        refine Ops.ex (Ex.rem rfl rfl (nzI_some hy269)) rfl rfl rfl ?_
        obtain ⟨y270, hy270, hf⟩ := bnd hf
        obtain ⟨g272, p272, o272, cs272, hA272, ho272, hr272, f272⟩ := own_elem f266 rfl (hst266.get (i := 1) rfl) hy270
        obtain rfl := hr272
        refine Ops.ex (Ex.ixA hA272 ho272 hy270 rfl rfl rfl Try.underlying30 sz5) rfl rfl rfl ?_
        refine Ops.load rfl Try.underlying5 rfl ((f272 _ (hst266.get (i := 1) rfl)) 0 _ rfl) rfl ?_
        refine Ops.ex (Ex.move rfl) rfl rfl rfl ?_
        refine Ops.ex (Ex.xor8 rfl rfl) rfl rfl rfl ?_
        obtain ⟨g274, p274, o274, cs274, hA274, ho274, hr274, f274⟩ := own_elem f266 rfl (hst266.get (i := 1) rfl) hy270
        obtain rfl := hr274
        refine Ops.ex (Ex.ixA hA274 ho274 hy270 rfl rfl rfl Try.underlying30 sz5) rfl rfl rfl ?_
        obtain ⟨l275, hy275, hf⟩ := bnd hf
        refine Ops.storeN (off := 0) (cs := [vu8 y270]) (cs' := [vu8 (y270 ^^^ p3)]) 1 hst266 rfl f266 rfl hA274 ho274 hy275 f274 rfl rfl rfl rfl rfl rfl sz5 rfl (by simp [Value.oneCell']) (by simp) (fun d275 w275 f275 hn275 hst275 => ?_)
        refine Ops.nil ?_
        refine Run.region ?_
        refine Ops.ex (Ex.move rfl) rfl rfl rfl ?_
        refine Ops.ex (Ex.move rfl) rfl rfl rfl ?_
        refine Ops.ex (Ex.move rfl) rfl rfl rfl ?_
        refine Ops.ex (Ex.move rfl) rfl rfl rfl ?_
        refine Ops.ex (Ex.cu16 rfl Try.underlying52 Try.underlying3) rfl rfl rfl ?_
        refine Ops.ex (Ex.move rfl) rfl rfl rfl ?_
        refine Ops.ex (Ex.len' rfl rfl rfl Try.underlying30) rfl rfl rfl ?_
        obtain ⟨_, hy276, hf⟩ := bnd hf
        refine Ops.ex (Ex.rem rfl rfl (nzI_some hy276)) rfl rfl rfl ?_
        obtain ⟨l277, hy277, hf⟩ := bnd hf
        obtain ⟨A277, c277, hA277, hB277, f277⟩ := SlH.sub f265.toH hy277
        replace f277 := f277.toS
        refine Ops.ex (Ex.subA hA277 hB277 hy277 rfl rfl Try.underlying30 sz5 rfl rfl) rfl rfl rfl ?_
        obtain ⟨z279, hz279, f279, hst279⟩ := St.freeze (τ := tU8) (xs := l275) hst275 f275 hn275
        replace f8 := f8.mono hz279; replace f257 := f257.mono hz279; replace f249 := f249.mono hz279; replace f250 := f250.mono hz279; replace f261 := f261.mono hz279; replace f262 := f262.mono hz279; replace f265 := f265.mono hz279; replace f277 := f277.mono hz279; replace f247 := f247.mono hz279
        replace hy248_0 := hy248_0.trans hz279
        replace hz248 := hz248.trans hz279
        refine Ops.sliceF [.slice A266 l266.length c266, .slice A277 l277.length c277] hst279 rfl Try.underlying53 sz30 zr30 rfl rfl (by kernel_rfl) rfl (by simp [Value.oneCell']) rfl (fun A278 w278 hst278 => ?_)
        have f278 : Cs (tSl tU8) z279 [.slice A266 l266.length c266, .slice A277 l277.length c277] [l275, l277] := (Cs.cons (c := [.slice A266 l266.length c266]) ⟨_, _, (by simp [hn275]), f279⟩ (Cs.cons (c := [.slice A277 l277.length c277]) ⟨_, _, rfl, f277⟩ (Cs.nil _ _)))
        obtain ⟨l280, hy280, hf⟩ := bnd hf
        refine Ops.app 3 hst278 rfl f247 rfl (own_slh f278 rfl (hst278.get (i := 1) rfl)) rfl hy280 rfl rfl rfl rfl Try.underlying53 inf30 rfl (by decide) (by decide) rfl (fun A280 c280 d280 w280 f280 hst280 => ?_)
        refine Ops.ex (Ex.assign rfl) rfl rfl rfl ?_
        refine Ops.nil ?_
        refine Run.endBlk ?_
        refine Run.region ?_
        refine Ops.ex (Ex.add rfl rfl) rfl rfl rfl ?_
        refine Ops.ex (Ex.move rfl) rfl rfl rfl ?_
        refine Ops.nil ?_
        refine Run.re 28 rfl (congrArg vi (wr_succ' hl9 hc9)) ?_
        exact Run.sub (by exact subB_spec ⟨rfl, rfl, rfl, rfl, rfl, rfl, trivial⟩) (Run.stop ⟨l8.length - (i9 + 1), by omega, i9 + 1, l280, A280, c280, d280, z279, rfl, by omega, (hnxb9 _).symm.trans hf, rfl, hz248, hy248_0, f280, (St.forget (St.forget hst280 2) 1)⟩)
    · replace hf := forL_out hf (nlt_of_dec hc)
      try dsimp only at hf
      refine Run.exit _ rfl ?_
      refine Run.seq ?_
      refine Run.seq ?_
      refine Run.region ?_
      refine Ops.ex (Ex.move rfl) rfl rfl rfl ?_
      refine Ops.ex (Ex.len' rfl rfl rfl Try.underlying53) rfl rfl rfl ?_
      refine Ops.ex (Ex.move rfl) rfl rfl rfl ?_
      refine Ops.nil ?_
      refine Run.block ?_
      have hc281 := (own_slh f247 rfl (hst248.get (i := 1) rfl)).cap
      have hm282 := Le.refl z246
      refine Run.sub (e' := [(63, .slice A247 l247.length c247), (64, vi (l247.length : Int)), (65, vi ((0 : Nat) : Int))]) (subB_spec ⟨rfl, rfl, rfl, trivial⟩) ?_
      refine Run.loop (fun mb281 => (fun e' w' => ∃ (i281 : Nat) (z337 : Zp), mb281 = l247.length - i281 ∧ i281 ≤ l247.length ∧ forL (go_law10_EditsRead.b2) (fun _ => some true) i281 (l247.drop i281) () = some r ∧ e' = [(63, .slice A247 l247.length c247), (64, vi (l247.length : Int)), (65, vi (i281 : Int))] ∧ Le z246 z337 ∧ Le z0 z337 ∧ Le z5 z337 ∧ Ht w0 (frz z337 :: (orow 30 1 (.slice A247 l247.length c247) l247.length d247) :: X) w')) l247.length ⟨0, z246, rfl, Nat.zero_le _, hf, rfl, hm282, hy248_0, hz248, hst248⟩ ?_
      rintro _ e' w338 ⟨i281, z337, rfl, hi281, hf, rfl, hz338, hy338_0, hy338_1, hst338⟩
      replace f247 := f247.mono hz338
      refine Run.seq ?_
      refine Run.region ?_
      refine Ops.ex (Ex.lss rfl rfl) rfl rfl rfl ?_
      refine Ops.nil ?_
      refine Run.seq ?_
      refine Run.cond rfl (fun hc => ?_) (fun hc => ?_)
      · have hl281 := lt_of_dec hc
        obtain ⟨a281, nxb281, ha281, hnxb281, hf⟩ := forL_in hf hl281
        unfold go_law10_EditsRead.b2 at hf
        try dsimp only at hf
        refine Run.skip ?_
        refine Run.seq ?_
        refine Run.block ?_
        refine Run.seq ?_
        refine Run.region ?_
        obtain ⟨g340, p340, o340, cs340, hA340, ho340, hr340, f340⟩ := own_elem f247 rfl (hst338.get (i := 1) rfl) (atI_nat ha281)
        obtain ⟨A339, c339, rfl, f339⟩ := hr340
        refine Ops.ex (Ex.ixA hA340 ho340 (atI_nat ha281) rfl rfl rfl Try.underlying53 sz30) rfl rfl rfl ?_
        refine Ops.load rfl Try.underlying30 rfl ((f340 _ (hst338.get (i := 1) rfl)) 0 _ rfl) rfl ?_
        refine Ops.ex (Ex.assign rfl) rfl rfl rfl ?_
        refine Ops.nil ?_
        refine Run.seq ?_
        refine Run.region ?_
        refine Ops.ex (Ex.move rfl) rfl rfl rfl ?_
        obtain ⟨y341, hy341, hf⟩ := bnd hf
        refine Ops.call rfl rfl Try.func19 (by kernel_rfl) (by kernel_rfl) rfl (go_edits_Read.walk (p0 := a281) (hst := hst338) (f1 := f339) (hf := hy341)) ?_
        rintro _ w341 ⟨z341, A342, c342, A343, c343, rfl, hz341, f342, f343, hst341⟩
        refine ⟨_, rfl, ?_⟩
        replace f339 := f339.mono hz341; replace f247 := f247.mono hz341
        replace hy338_0 := hy338_0.trans hz341
        replace hy338_1 := hy338_1.trans hz341
        replace hz338 := hz338.trans hz341
        refine Ops.ex (Ex.move rfl) rfl rfl rfl ?_
        refine Ops.ex (Ex.extract rfl rfl) rfl rfl rfl ?_
        refine Ops.ex (Ex.extract rfl rfl) rfl rfl rfl ?_
        refine Ops.allocF [.slice none 0 0, .slice none 0 0, vi 0] hst341 zr29 rfl rfl (fun g346 w346 hst346 => ?_)
        refine Ops.store 1 [.slice A342 y341.1.Add.length c342, .slice A343 y341.1.Drop.length c343, vi y341.1.Floor] hst346 rfl rfl rfl rfl sz29 rfl (by simp [Value.oneCell']) (by simp) (fun w347 hst347 => ?_)
        refine Ops.ex (Ex.assign rfl) rfl rfl rfl ?_
        refine Ops.nil ?_
        refine Run.seq ?_
        have hm355 := Le.refl z341
        apply Run.jn (fun e' w' => ∃ (b357 : Bool) (z356 : Zp), go_law10_EditsRead.j1 nxb281 b357 = some r ∧ e' = [(63, .slice A247 l247.length c247), (64, vi (l247.length : Int)), (65, vi (i281 : Int)), (102, vb b357)] ∧ Le z341 z356 ∧ Le z0 z356 ∧ Le z5 z356 ∧ Le z246 z356 ∧ Ht w0 (frz z356 :: (orow 30 1 (.slice A247 l247.length c247) l247.length d247) :: X) w')
        · intro hj348
          refine Run.drawH [([], fun w => ∃ ζ Y, Le z341 ζ ∧ Ht w0 (frz ζ :: (blk g346 [.slice A342 y341.1.Add.length c342, .slice A343 y341.1.Drop.length c343, vi y341.1.Floor] 29) :: (orow 30 1 (.slice A247 l247.length c247) l247.length d247) :: Y) w)] (by kernel_rfl) hst347 (fun w358 hst358 => ?_)
          have hS0 := (⟨_, _, (Le.refl _), (St.up (St.up (St.up hst358 2 rfl) 2 rfl) 2 rfl)⟩ : (fun w => ∃ ζ Y, Le z341 ζ ∧ Ht w0 (frz ζ :: (blk g346 [.slice A342 y341.1.Add.length c342, .slice A343 y341.1.Drop.length c343, vi y341.1.Floor] 29) :: (orow 30 1 (.slice A247 l247.length c247) l247.length d247) :: Y) w) _)
          refine Any.takeE 0 rfl rfl rfl rfl (by kernel_rfl) (fun _ _ _ _ _ h => h) ((Ex.move rfl).s) ?_
          refine Any.takeE 1 rfl rfl rfl rfl (by kernel_rfl) (fun _ _ _ _ _ h => h) ((Ex.move rfl).s) ?_
          refine Any.case 75 rfl (fun hc => ?_) (fun hc => ?_)
          · replace hf := ifTb hc hf
            refine Any.take 0 2 rfl rfl rfl rfl rfl (by kernel_rfl) (fun _ _ _ _ _ h => h) (ExS.g (ExS.loadAgg [.slice A342 y341.1.Add.length c342, .slice A343 y341.1.Drop.length c343, vi y341.1.Floor] rfl Try.underlying29 rfl sz29 rfl (fun w hS => by obtain ⟨_, _, _, hs⟩ := hS; exact hs.cells (i := 1) rfl 0 3))) hS0 ?_
            refine Any.takeE 4 rfl rfl rfl rfl (by kernel_rfl) (fun _ _ _ _ _ h => h) (ExS.g ((Ex.move rfl).s)) ?_
            refine Any.all [3, 5] (by kernel_rfl) rfl (fun i hi => ?_)
            simp only [List.mem_cons, List.not_mem_nil, or_false] at hi
            rcases hi with rfl | rfl
            · skip
              obtain ⟨y359, hy359, hf⟩ := bnd hf
              refine ⟨_, rfl, rfl, One.g <| One.of_ops rfl ?_⟩
              refine Ops.call rfl rfl Try.func20 (by kernel_rfl) (by kernel_rfl) rfl (go_law10_bytes.walk (p0 := y341.1) (hst := hst358) (f1 := f342) (f2 := f343) (hf := hy359)) ?_
              rintro _ w359 ⟨z359, rfl, hz359, hst359⟩
              refine ⟨_, rfl, Ops.stop ?_⟩
              replace f339 := f339.mono hz359; replace f342 := f342.mono hz359; replace f343 := f343.mono hz359; replace f247 := f247.mono hz359
              replace hy338_0 := hy338_0.trans hz359
              replace hy338_1 := hy338_1.trans hz359
              replace hz338 := hz338.trans hz359
              replace hm355 := hm355.trans hz359
              have hS0 := (⟨_, _, hm355, (St.up (St.up (St.up hst359 2 rfl) 2 rfl) 2 rfl)⟩ : (fun w => ∃ ζ Y, Le z341 ζ ∧ Ht w0 (frz ζ :: (blk g346 [.slice A342 y341.1.Add.length c342, .slice A343 y341.1.Drop.length c343, vi y341.1.Floor] 29) :: (orow 30 1 (.slice A247 l247.length c247) l247.length d247) :: Y) w) _)
              refine ⟨⟨.inr (fun _ => hS0), trivial⟩, ?_⟩
              refine Any.one 5 (by kernel_rfl) rfl rfl (One.g <| One.of_ops rfl ?_)
              refine Ops.str8 (f339.at_ hst359) rfl Try.underlying30 Try.underlying5 Try.underlying9 rfl (Ops.stop ?_)
              have hS0 := (⟨_, _, hm355, (St.up (St.up (St.up hst359 2 rfl) 2 rfl) 2 rfl)⟩ : (fun w => ∃ ζ Y, Le z341 ζ ∧ Ht w0 (frz ζ :: (blk g346 [.slice A342 y341.1.Add.length c342, .slice A343 y341.1.Drop.length c343, vi y341.1.Floor] 29) :: (orow 30 1 (.slice A247 l247.length c247) l247.length d247) :: Y) w) _)
              refine ⟨⟨.inr (fun _ => hS0), trivial⟩, ?_⟩
              refine Any.takeE 6 rfl rfl rfl rfl (by kernel_rfl) (fun _ _ _ _ _ h => h) (ExS.g ((Ex.neqT rfl rfl).s)) ?_
              refine Any.takeE 7 rfl rfl rfl rfl (by kernel_rfl) (fun _ _ _ _ _ h => h) ((Ex.pickT rfl rfl).s) ?_
              refine Any.takeE 8 rfl rfl rfl rfl (by kernel_rfl) (fun _ _ _ _ _ h => h) ((Ex.move rfl).s) ?_
              refine Any.case 82 rfl (fun hc => ?_) (fun hc => ?_)
              · replace hf := ifF (neq_T hc) hf
                refine Any.pass 9 rfl rfl rfl rfl (by kernel_rfl) (fun _ _ _ _ _ h => h) ?_
                refine Any.pass 10 rfl rfl rfl rfl (by kernel_rfl) (fun _ _ _ _ _ h => h) ?_
                refine Any.pass 11 rfl rfl rfl rfl (by kernel_rfl) (fun _ _ _ _ _ h => h) ?_
                refine Any.passU 12 rfl rfl rfl rfl rfl (by kernel_rfl) (fun _ _ _ _ _ h => h) ?_
                refine Any.passU 13 rfl rfl rfl rfl rfl (by kernel_rfl) (fun _ _ _ _ _ h => h) ?_
                refine Any.passU 14 rfl rfl rfl rfl rfl (by kernel_rfl) (fun _ _ _ _ _ h => h) ?_
                refine Any.passU 15 rfl rfl rfl rfl rfl (by kernel_rfl) (fun _ _ _ _ _ h => h) ?_
                refine Any.passU 16 rfl rfl rfl rfl rfl (by kernel_rfl) (fun _ _ _ _ _ h => h) ?_
                refine Any.passU 17 rfl rfl rfl rfl rfl (by kernel_rfl) (fun _ _ _ _ _ h => h) ?_
                refine Any.passU 18 rfl rfl rfl rfl rfl (by kernel_rfl) (fun _ _ _ _ _ h => h) ?_
                refine Any.passU 19 rfl rfl rfl rfl rfl (by kernel_rfl) (fun _ _ _ _ _ h => h) ?_
                refine Any.passU 20 rfl rfl rfl rfl rfl (by kernel_rfl) (fun _ _ _ _ _ h => h) ?_
                refine Any.passU 21 rfl rfl rfl rfl rfl (by kernel_rfl) (fun _ _ _ _ _ h => h) ?_
                refine Any.passU 22 rfl rfl rfl rfl rfl (by kernel_rfl) (fun _ _ _ _ _ h => h) ?_
                refine Any.passU 23 rfl rfl rfl rfl rfl (by kernel_rfl) (fun _ _ _ _ _ h => h) ?_
                refine Any.passU 24 rfl rfl rfl rfl rfl (by kernel_rfl) (fun _ _ _ _ _ h => h) ?_
                refine Any.passU 25 rfl rfl rfl rfl rfl (by kernel_rfl) (fun _ _ _ _ _ h => h) ?_
                refine Any.passU 26 rfl rfl rfl rfl rfl (by kernel_rfl) (fun _ _ _ _ _ h => h) ?_
                refine Any.pass 27 rfl rfl rfl rfl (by kernel_rfl) (fun _ _ _ _ _ h => h) ?_
                refine Any.takeE 28 rfl rfl rfl rfl (by kernel_rfl) (fun _ _ _ _ _ h => h) ((Ex.pickT rfl rfl).s) ?_
                refine Any.done (by kernel_rfl) ?_
                exact Run.sub (by exact subB_spec ⟨rfl, rfl, rfl, rfl, trivial⟩) (hj348 _ _ ⟨true, z359, hf, rfl, hm355, hy338_0, hy338_1, hz338, (St.forget hst359 1)⟩)
              · replace hf := ifT (neq_F hc) hf
                refine Any.takeE 9 rfl rfl rfl rfl (by kernel_rfl) (fun _ _ _ _ _ h => h) (ExS.g ((Ex.move rfl).s)) ?_
                refine Any.takeE 10 rfl rfl rfl rfl (by kernel_rfl) (fun _ _ _ _ _ h => h) (ExS.g ((Ex.not rfl).s)) ?_
                refine Any.takeE 11 rfl rfl rfl rfl (by kernel_rfl) (fun _ _ _ _ _ h => h) (ExS.g ((Ex.move rfl).s)) ?_
                refine Any.case 85 rfl (fun hc => ?_) (fun hc => ?_)
                · replace hf := ifFb (bn_T hc) hf
                  refine Any.takeE 12 rfl rfl rfl rfl (by kernel_rfl) (fun _ _ _ _ _ h => h) (ExS.g ((Ex.fieldAddr rfl Try.underlying29 rfl sz3).s)) ?_
                  refine Any.take 0 13 rfl rfl rfl rfl rfl (by kernel_rfl) (fun _ _ _ _ _ h => h) (ExS.g (ExS.load rfl Try.underlying3 rfl (fun w hS => by obtain ⟨_, _, _, hs⟩ := hS; exact hs.cell (i := 1) rfl rfl))) hS0 ?_
                  refine Any.takeE 14 rfl rfl rfl rfl (by kernel_rfl) (fun _ _ _ _ _ h => h) (ExS.g ((Ex.neqI rfl rfl).s)) ?_
                  refine Any.takeE 15 rfl rfl rfl rfl (by kernel_rfl) (fun _ _ _ _ _ h => h) (ExS.g ((Ex.move rfl).s)) ?_
                  refine Any.case 89 rfl (fun hc => ?_) (fun hc => ?_)
                  · replace hf := ifF (neq_T hc) hf
                    refine Any.pass 16 rfl rfl rfl rfl (by kernel_rfl) (fun _ _ _ _ _ h => h) ?_
                    refine Any.pass 17 rfl rfl rfl rfl (by kernel_rfl) (fun _ _ _ _ _ h => h) ?_
                    refine Any.pass 18 rfl rfl rfl rfl (by kernel_rfl) (fun _ _ _ _ _ h => h) ?_
                    refine Any.pass 19 rfl rfl rfl rfl (by kernel_rfl) (fun _ _ _ _ _ h => h) ?_
                    refine Any.takeE 20 rfl rfl rfl rfl (by kernel_rfl) (fun _ _ _ _ _ h => h) (ExS.g ((Ex.pickT rfl rfl).s)) ?_
                    refine Any.takeE 21 rfl rfl rfl rfl (by kernel_rfl) (fun _ _ _ _ _ h => h) (ExS.g ((Ex.move rfl).s)) ?_
                    refine Any.pass 22 rfl rfl rfl rfl (by kernel_rfl) (fun _ _ _ _ _ h => h) ?_
                    refine Any.pass 23 rfl rfl rfl rfl (by kernel_rfl) (fun _ _ _ _ _ h => h) ?_
                    refine Any.pass 24 rfl rfl rfl rfl (by kernel_rfl) (fun _ _ _ _ _ h => h) ?_
                    refine Any.pass 25 rfl rfl rfl rfl (by kernel_rfl) (fun _ _ _ _ _ h => h) ?_
                    refine Any.takeE 26 rfl rfl rfl rfl (by kernel_rfl) (fun _ _ _ _ _ h => h) (ExS.g ((Ex.pickT rfl rfl).s)) ?_
                    refine Any.takeE 27 rfl rfl rfl rfl (by kernel_rfl) (fun _ _ _ _ _ h => h) (ExS.g ((Ex.pickT rfl rfl).s)) ?_
                    refine Any.takeE 28 rfl rfl rfl rfl (by kernel_rfl) (fun _ _ _ _ _ h => h) ((Ex.pickF rfl rfl).s) ?_
                    refine Any.done (by kernel_rfl) ?_
                    exact Run.sub (by exact subB_spec ⟨rfl, rfl, rfl, rfl, trivial⟩) (hj348 _ _ ⟨true, z359, hf, rfl, hm355, hy338_0, hy338_1, hz338, (St.forget hst359 1)⟩)
                  · replace hf := ifT (neq_F hc) hf
                    refine Any.takeE 16 rfl rfl rfl rfl (by kernel_rfl) (fun _ _ _ _ _ h => h) (ExS.g ((Ex.fieldAddr rfl Try.underlying29 rfl sz26).s)) ?_
                    refine Any.take 0 17 rfl rfl rfl rfl rfl (by kernel_rfl) (fun _ _ _ _ _ h => h) (ExS.g (ExS.load rfl Try.underlying26 rfl (fun w hS => by obtain ⟨_, _, _, hs⟩ := hS; exact hs.cell (i := 1) rfl rfl))) hS0 ?_
                    refine Any.takeE 18 rfl rfl rfl rfl (by kernel_rfl) (fun _ _ _ _ _ h => h) (ExS.g ((Ex.len' rfl rfl rfl Try.underlying26).s)) ?_
                    refine Any.takeE 19 rfl rfl rfl rfl (by kernel_rfl) (fun _ _ _ _ _ h => h) (ExS.g ((Ex.neqI rfl rfl).s)) ?_
                    refine Any.takeE 20 rfl rfl rfl rfl (by kernel_rfl) (fun _ _ _ _ _ h => h) (ExS.g ((Ex.pickF rfl rfl).s)) ?_
                    refine Any.takeE 21 rfl rfl rfl rfl (by kernel_rfl) (fun _ _ _ _ _ h => h) (ExS.g ((Ex.move rfl).s)) ?_
                    refine Any.case 95 rfl (fun hc => ?_) (fun hc => ?_)
                    · replace hf := ifF (neq_T hc) hf
                      refine Any.pass 22 rfl rfl rfl rfl (by kernel_rfl) (fun _ _ _ _ _ h => h) ?_
                      refine Any.pass 23 rfl rfl rfl rfl (by kernel_rfl) (fun _ _ _ _ _ h => h) ?_
                      refine Any.pass 24 rfl rfl rfl rfl (by kernel_rfl) (fun _ _ _ _ _ h => h) ?_
                      refine Any.pass 25 rfl rfl rfl rfl (by kernel_rfl) (fun _ _ _ _ _ h => h) ?_
                      refine Any.takeE 26 rfl rfl rfl rfl (by kernel_rfl) (fun _ _ _ _ _ h => h) (ExS.g ((Ex.pickT rfl rfl).s)) ?_
                      refine Any.takeE 27 rfl rfl rfl rfl (by kernel_rfl) (fun _ _ _ _ _ h => h) (ExS.g ((Ex.pickT rfl rfl).s)) ?_
                      refine Any.takeE 28 rfl rfl rfl rfl (by kernel_rfl) (fun _ _ _ _ _ h => h) ((Ex.pickF rfl rfl).s) ?_
                      refine Any.done (by kernel_rfl) ?_
                      exact Run.sub (by exact subB_spec ⟨rfl, rfl, rfl, rfl, trivial⟩) (hj348 _ _ ⟨true, z359, hf, rfl, hm355, hy338_0, hy338_1, hz338, (St.forget hst359 1)⟩)
                    · replace hf := ifT (neq_F hc) hf
                      refine Any.takeE 22 rfl rfl rfl rfl (by kernel_rfl) (fun _ _ _ _ _ h => h) (ExS.g ((Ex.fieldAddr rfl Try.underlying29 rfl sz27).s)) ?_
                      refine Any.take 0 23 rfl rfl rfl rfl rfl (by kernel_rfl) (fun _ _ _ _ _ h => h) (ExS.g (ExS.load rfl Try.underlying27 rfl (fun w hS => by obtain ⟨_, _, _, hs⟩ := hS; exact hs.cell (i := 1) rfl rfl))) hS0 ?_
                      refine Any.takeE 24 rfl rfl rfl rfl (by kernel_rfl) (fun _ _ _ _ _ h => h) (ExS.g ((Ex.len' rfl rfl rfl Try.underlying27).s)) ?_
                      refine Any.takeE 25 rfl rfl rfl rfl (by kernel_rfl) (fun _ _ _ _ _ h => h) (ExS.g ((Ex.neqI rfl rfl).s)) ?_
                      refine Any.takeE 26 rfl rfl rfl rfl (by kernel_rfl) (fun _ _ _ _ _ h => h) (ExS.g ((Ex.pickF rfl rfl).s)) ?_
                      refine Any.takeE 27 rfl rfl rfl rfl (by kernel_rfl) (fun _ _ _ _ _ h => h) (ExS.g ((Ex.pickT rfl rfl).s)) ?_
                      refine Any.takeE 28 rfl rfl rfl rfl (by kernel_rfl) (fun _ _ _ _ _ h => h) ((Ex.pickF rfl rfl).s) ?_
                      refine Any.done (by kernel_rfl) ?_
                      exact Run.sub (by exact subB_spec ⟨rfl, rfl, rfl, rfl, trivial⟩) (hj348 _ _ ⟨!(decide ((y341.1.Drop.length : Int) = 0)), z359, hf, rfl, hm355, hy338_0, hy338_1, hz338, (St.forget hst359 1)⟩)
                · replace hf := ifTb (bn_F hc) hf
                  refine Any.pass 12 rfl rfl rfl rfl (by kernel_rfl) (fun _ _ _ _ _ h => h) ?_
                  refine Any.pass 13 rfl rfl rfl rfl (by kernel_rfl) (fun _ _ _ _ _ h => h) ?_
                  refine Any.pass 14 rfl rfl rfl rfl (by kernel_rfl) (fun _ _ _ _ _ h => h) ?_
                  refine Any.pass 15 rfl rfl rfl rfl (by kernel_rfl) (fun _ _ _ _ _ h => h) ?_
                  refine Any.passU 16 rfl rfl rfl rfl rfl (by kernel_rfl) (fun _ _ _ _ _ h => h) ?_
                  refine Any.passU 17 rfl rfl rfl rfl rfl (by kernel_rfl) (fun _ _ _ _ _ h => h) ?_
                  refine Any.passU 18 rfl rfl rfl rfl rfl (by kernel_rfl) (fun _ _ _ _ _ h => h) ?_
                  refine Any.passU 19 rfl rfl rfl rfl rfl (by kernel_rfl) (fun _ _ _ _ _ h => h) ?_
                  refine Any.pass 20 rfl rfl rfl rfl (by kernel_rfl) (fun _ _ _ _ _ h => h) ?_
                  refine Any.pass 21 rfl rfl rfl rfl (by kernel_rfl) (fun _ _ _ _ _ h => h) ?_
                  refine Any.passU 22 rfl rfl rfl rfl rfl (by kernel_rfl) (fun _ _ _ _ _ h => h) ?_
                  refine Any.passU 23 rfl rfl rfl rfl rfl (by kernel_rfl) (fun _ _ _ _ _ h => h) ?_
                  refine Any.passU 24 rfl rfl rfl rfl rfl (by kernel_rfl) (fun _ _ _ _ _ h => h) ?_
                  refine Any.passU 25 rfl rfl rfl rfl rfl (by kernel_rfl) (fun _ _ _ _ _ h => h) ?_
                  refine Any.pass 26 rfl rfl rfl rfl (by kernel_rfl) (fun _ _ _ _ _ h => h) ?_
                  refine Any.takeE 27 rfl rfl rfl rfl (by kernel_rfl) (fun _ _ _ _ _ h => h) (ExS.g ((Ex.pickF rfl rfl).s)) ?_
                  refine Any.takeE 28 rfl rfl rfl rfl (by kernel_rfl) (fun _ _ _ _ _ h => h) ((Ex.pickF rfl rfl).s) ?_
                  refine Any.done (by kernel_rfl) ?_
                  exact Run.sub (by exact subB_spec ⟨rfl, rfl, rfl, rfl, trivial⟩) (hj348 _ _ ⟨false, z359, hf, rfl, hm355, hy338_0, hy338_1, hz338, (St.forget hst359 1)⟩)
            · skip
              refine ⟨_, rfl, rfl, One.g <| One.of_ops rfl ?_⟩
              refine Ops.str8 (f339.at_ hst358) rfl Try.underlying30 Try.underlying5 Try.underlying9 rfl (Ops.stop ?_)
              have hS0 := (⟨_, _, (Le.refl _), (St.up (St.up (St.up hst358 2 rfl) 2 rfl) 2 rfl)⟩ : (fun w => ∃ ζ Y, Le z341 ζ ∧ Ht w0 (frz ζ :: (blk g346 [.slice A342 y341.1.Add.length c342, .slice A343 y341.1.Drop.length c343, vi y341.1.Floor] 29) :: (orow 30 1 (.slice A247 l247.length c247) l247.length d247) :: Y) w) _)
              refine ⟨⟨.inr (fun _ => hS0), trivial⟩, ?_⟩
              obtain ⟨y361, hy361, hf⟩ := bnd hf
              refine Any.one 3 (by kernel_rfl) rfl rfl (One.g <| One.of_ops rfl ?_)
              refine Ops.call rfl rfl Try.func20 (by kernel_rfl) (by kernel_rfl) rfl (go_law10_bytes.walk (p0 := y341.1) (hst := hst358) (f1 := f342) (f2 := f343) (hf := hy361)) ?_
              rintro _ w361 ⟨z361, rfl, hz361, hst361⟩
              refine ⟨_, rfl, Ops.stop ?_⟩
              replace f339 := f339.mono hz361; replace f342 := f342.mono hz361; replace f343 := f343.mono hz361; replace f247 := f247.mono hz361
              replace hy338_0 := hy338_0.trans hz361
              replace hy338_1 := hy338_1.trans hz361
              replace hz338 := hz338.trans hz361
              replace hm355 := hm355.trans hz361
              have hS0 := (⟨_, _, hm355, (St.up (St.up (St.up hst361 2 rfl) 2 rfl) 2 rfl)⟩ : (fun w => ∃ ζ Y, Le z341 ζ ∧ Ht w0 (frz ζ :: (blk g346 [.slice A342 y341.1.Add.length c342, .slice A343 y341.1.Drop.length c343, vi y341.1.Floor] 29) :: (orow 30 1 (.slice A247 l247.length c247) l247.length d247) :: Y) w) _)
              refine ⟨⟨.inr (fun _ => hS0), trivial⟩, ?_⟩
              refine Any.takeE 6 rfl rfl rfl rfl (by kernel_rfl) (fun _ _ _ _ _ h => h) (ExS.g ((Ex.neqT rfl rfl).s)) ?_
              refine Any.takeE 7 rfl rfl rfl rfl (by kernel_rfl) (fun _ _ _ _ _ h => h) ((Ex.pickT rfl rfl).s) ?_
              refine Any.takeE 8 rfl rfl rfl rfl (by kernel_rfl) (fun _ _ _ _ _ h => h) ((Ex.move rfl).s) ?_
              refine Any.case 82 rfl (fun hc => ?_) (fun hc => ?_)
              · replace hf := ifF (neq_T hc) hf
                refine Any.pass 9 rfl rfl rfl rfl (by kernel_rfl) (fun _ _ _ _ _ h => h) ?_
                refine Any.pass 10 rfl rfl rfl rfl (by kernel_rfl) (fun _ _ _ _ _ h => h) ?_
                refine Any.pass 11 rfl rfl rfl rfl (by kernel_rfl) (fun _ _ _ _ _ h => h) ?_
                refine Any.passU 12 rfl rfl rfl rfl rfl (by kernel_rfl) (fun _ _ _ _ _ h => h) ?_
                refine Any.passU 13 rfl rfl rfl rfl rfl (by kernel_rfl) (fun _ _ _ _ _ h => h) ?_
                refine Any.passU 14 rfl rfl rfl rfl rfl (by kernel_rfl) (fun _ _ _ _ _ h => h) ?_
                refine Any.passU 15 rfl rfl rfl rfl rfl (by kernel_rfl) (fun _ _ _ _ _ h => h) ?_
                refine Any.passU 16 rfl rfl rfl rfl rfl (by kernel_rfl) (fun _ _ _ _ _ h => h) ?_
                refine Any.passU 17 rfl rfl rfl rfl rfl (by kernel_rfl) (fun _ _ _ _ _ h => h) ?_
                refine Any.passU 18 rfl rfl rfl rfl rfl (by kernel_rfl) (fun _ _ _ _ _ h => h) ?_
                refine Any.passU 19 rfl rfl rfl rfl rfl (by kernel_rfl) (fun _ _ _ _ _ h => h) ?_
                refine Any.passU 20 rfl rfl rfl rfl rfl (by kernel_rfl) (fun _ _ _ _ _ h => h) ?_
                refine Any.passU 21 rfl rfl rfl rfl rfl (by kernel_rfl) (fun _ _ _ _ _ h => h) ?_
                refine Any.passU 22 rfl rfl rfl rfl rfl (by kernel_rfl) (fun _ _ _ _ _ h => h) ?_
                refine Any.passU 23 rfl rfl rfl rfl rfl (by kernel_rfl) (fun _ _ _ _ _ h => h) ?_
                refine Any.passU 24 rfl rfl rfl rfl rfl (by kernel_rfl) (fun _ _ _ _ _ h => h) ?_
                refine Any.passU 25 rfl rfl rfl rfl rfl (by kernel_rfl) (fun _ _ _ _ _ h => h) ?_
                refine Any.passU 26 rfl rfl rfl rfl rfl (by kernel_rfl) (fun _ _ _ _ _ h => h) ?_
                refine Any.pass 27 rfl rfl rfl rfl (by kernel_rfl) (fun _ _ _ _ _ h => h) ?_
                refine Any.takeE 28 rfl rfl rfl rfl (by kernel_rfl) (fun _ _ _ _ _ h => h) ((Ex.pickT rfl rfl).s) ?_
                refine Any.done (by kernel_rfl) ?_
                exact Run.sub (by exact subB_spec ⟨rfl, rfl, rfl, rfl, trivial⟩) (hj348 _ _ ⟨true, z361, hf, rfl, hm355, hy338_0, hy338_1, hz338, (St.forget hst361 1)⟩)
              · replace hf := ifT (neq_F hc) hf
                refine Any.takeE 9 rfl rfl rfl rfl (by kernel_rfl) (fun _ _ _ _ _ h => h) (ExS.g ((Ex.move rfl).s)) ?_
                refine Any.takeE 10 rfl rfl rfl rfl (by kernel_rfl) (fun _ _ _ _ _ h => h) (ExS.g ((Ex.not rfl).s)) ?_
                refine Any.takeE 11 rfl rfl rfl rfl (by kernel_rfl) (fun _ _ _ _ _ h => h) (ExS.g ((Ex.move rfl).s)) ?_
                refine Any.case 85 rfl (fun hc => ?_) (fun hc => ?_)
                · replace hf := ifFb (bn_T hc) hf
                  refine Any.takeE 12 rfl rfl rfl rfl (by kernel_rfl) (fun _ _ _ _ _ h => h) (ExS.g ((Ex.fieldAddr rfl Try.underlying29 rfl sz3).s)) ?_
                  refine Any.take 0 13 rfl rfl rfl rfl rfl (by kernel_rfl) (fun _ _ _ _ _ h => h) (ExS.g (ExS.load rfl Try.underlying3 rfl (fun w hS => by obtain ⟨_, _, _, hs⟩ := hS; exact hs.cell (i := 1) rfl rfl))) hS0 ?_
                  refine Any.takeE 14 rfl rfl rfl rfl (by kernel_rfl) (fun _ _ _ _ _ h => h) (ExS.g ((Ex.neqI rfl rfl).s)) ?_
                  refine Any.takeE 15 rfl rfl rfl rfl (by kernel_rfl) (fun _ _ _ _ _ h => h) (ExS.g ((Ex.move rfl).s)) ?_
                  refine Any.case 89 rfl (fun hc => ?_) (fun hc => ?_)
                  · replace hf := ifF (neq_T hc) hf
                    refine Any.pass 16 rfl rfl rfl rfl (by kernel_rfl) (fun _ _ _ _ _ h => h) ?_
                    refine Any.pass 17 rfl rfl rfl rfl (by kernel_rfl) (fun _ _ _ _ _ h => h) ?_
                    refine Any.pass 18 rfl rfl rfl rfl (by kernel_rfl) (fun _ _ _ _ _ h => h) ?_
                    refine Any.pass 19 rfl rfl rfl rfl (by kernel_rfl) (fun _ _ _ _ _ h => h) ?_
                    refine Any.takeE 20 rfl rfl rfl rfl (by kernel_rfl) (fun _ _ _ _ _ h => h) (ExS.g ((Ex.pickT rfl rfl).s)) ?_
                    refine Any.takeE 21 rfl rfl rfl rfl (by kernel_rfl) (fun _ _ _ _ _ h => h) (ExS.g ((Ex.move rfl).s)) ?_
                    refine Any.pass 22 rfl rfl rfl rfl (by kernel_rfl) (fun _ _ _ _ _ h => h) ?_
                    refine Any.pass 23 rfl rfl rfl rfl (by kernel_rfl) (fun _ _ _ _ _ h => h) ?_
                    refine Any.pass 24 rfl rfl rfl rfl (by kernel_rfl) (fun _ _ _ _ _ h => h) ?_
                    refine Any.pass 25 rfl rfl rfl rfl (by kernel_rfl) (fun _ _ _ _ _ h => h) ?_
                    refine Any.takeE 26 rfl rfl rfl rfl (by kernel_rfl) (fun _ _ _ _ _ h => h) (ExS.g ((Ex.pickT rfl rfl).s)) ?_
                    refine Any.takeE 27 rfl rfl rfl rfl (by kernel_rfl) (fun _ _ _ _ _ h => h) (ExS.g ((Ex.pickT rfl rfl).s)) ?_
                    refine Any.takeE 28 rfl rfl rfl rfl (by kernel_rfl) (fun _ _ _ _ _ h => h) ((Ex.pickF rfl rfl).s) ?_
                    refine Any.done (by kernel_rfl) ?_
                    exact Run.sub (by exact subB_spec ⟨rfl, rfl, rfl, rfl, trivial⟩) (hj348 _ _ ⟨true, z361, hf, rfl, hm355, hy338_0, hy338_1, hz338, (St.forget hst361 1)⟩)
                  · replace hf := ifT (neq_F hc) hf
                    refine Any.takeE 16 rfl rfl rfl rfl (by kernel_rfl) (fun _ _ _ _ _ h => h) (ExS.g ((Ex.fieldAddr rfl Try.underlying29 rfl sz26).s)) ?_
                    refine Any.take 0 17 rfl rfl rfl rfl rfl (by kernel_rfl) (fun _ _ _ _ _ h => h) (ExS.g (ExS.load rfl Try.underlying26 rfl (fun w hS => by obtain ⟨_, _, _, hs⟩ := hS; exact hs.cell (i := 1) rfl rfl))) hS0 ?_
                    refine Any.takeE 18 rfl rfl rfl rfl (by kernel_rfl) (fun _ _ _ _ _ h => h) (ExS.g ((Ex.len' rfl rfl rfl Try.underlying26).s)) ?_
                    refine Any.takeE 19 rfl rfl rfl rfl (by kernel_rfl) (fun _ _ _ _ _ h => h) (ExS.g ((Ex.neqI rfl rfl).s)) ?_
                    refine Any.takeE 20 rfl rfl rfl rfl (by kernel_rfl) (fun _ _ _ _ _ h => h) (ExS.g ((Ex.pickF rfl rfl).s)) ?_
                    refine Any.takeE 21 rfl rfl rfl rfl (by kernel_rfl) (fun _ _ _ _ _ h => h) (ExS.g ((Ex.move rfl).s)) ?_
                    refine Any.case 95 rfl (fun hc => ?_) (fun hc => ?_)
                    · replace hf := ifF (neq_T hc) hf
                      refine Any.pass 22 rfl rfl rfl rfl (by kernel_rfl) (fun _ _ _ _ _ h => h) ?_
                      refine Any.pass 23 rfl rfl rfl rfl (by kernel_rfl) (fun _ _ _ _ _ h => h) ?_
                      refine Any.pass 24 rfl rfl rfl rfl (by kernel_rfl) (fun _ _ _ _ _ h => h) ?_
                      refine Any.pass 25 rfl rfl rfl rfl (by kernel_rfl) (fun _ _ _ _ _ h => h) ?_
                      refine Any.takeE 26 rfl rfl rfl rfl (by kernel_rfl) (fun _ _ _ _ _ h => h) (ExS.g ((Ex.pickT rfl rfl).s)) ?_
                      refine Any.takeE 27 rfl rfl rfl rfl (by kernel_rfl) (fun _ _ _ _ _ h => h) (ExS.g ((Ex.pickT rfl rfl).s)) ?_
                      refine Any.takeE 28 rfl rfl rfl rfl (by kernel_rfl) (fun _ _ _ _ _ h => h) ((Ex.pickF rfl rfl).s) ?_
                      refine Any.done (by kernel_rfl) ?_
                      exact Run.sub (by exact subB_spec ⟨rfl, rfl, rfl, rfl, trivial⟩) (hj348 _ _ ⟨true, z361, hf, rfl, hm355, hy338_0, hy338_1, hz338, (St.forget hst361 1)⟩)
                    · replace hf := ifT (neq_F hc) hf
                      refine Any.takeE 22 rfl rfl rfl rfl (by kernel_rfl) (fun _ _ _ _ _ h => h) (ExS.g ((Ex.fieldAddr rfl Try.underlying29 rfl sz27).s)) ?_
                      refine Any.take 0 23 rfl rfl rfl rfl rfl (by kernel_rfl) (fun _ _ _ _ _ h => h) (ExS.g (ExS.load rfl Try.underlying27 rfl (fun w hS => by obtain ⟨_, _, _, hs⟩ := hS; exact hs.cell (i := 1) rfl rfl))) hS0 ?_
                      refine Any.takeE 24 rfl rfl rfl rfl (by kernel_rfl) (fun _ _ _ _ _ h => h) (ExS.g ((Ex.len' rfl rfl rfl Try.underlying27).s)) ?_
                      refine Any.takeE 25 rfl rfl rfl rfl (by kernel_rfl) (fun _ _ _ _ _ h => h) (ExS.g ((Ex.neqI rfl rfl).s)) ?_
                      refine Any.takeE 26 rfl rfl rfl rfl (by kernel_rfl) (fun _ _ _ _ _ h => h) (ExS.g ((Ex.pickF rfl rfl).s)) ?_
                      refine Any.takeE 27 rfl rfl rfl rfl (by kernel_rfl) (fun _ _ _ _ _ h => h) (ExS.g ((Ex.pickT rfl rfl).s)) ?_
                      refine Any.takeE 28 rfl rfl rfl rfl (by kernel_rfl) (fun _ _ _ _ _ h => h) ((Ex.pickF rfl rfl).s) ?_
                      refine Any.done (by kernel_rfl) ?_
                      exact Run.sub (by exact subB_spec ⟨rfl, rfl, rfl, rfl, trivial⟩) (hj348 _ _ ⟨!(decide ((y341.1.Drop.length : Int) = 0)), z361, hf, rfl, hm355, hy338_0, hy338_1, hz338, (St.forget hst361 1)⟩)
                · replace hf := ifTb (bn_F hc) hf
                  refine Any.pass 12 rfl rfl rfl rfl (by kernel_rfl) (fun _ _ _ _ _ h => h) ?_
                  refine Any.pass 13 rfl rfl rfl rfl (by kernel_rfl) (fun _ _ _ _ _ h => h) ?_
                  refine Any.pass 14 rfl rfl rfl rfl (by kernel_rfl) (fun _ _ _ _ _ h => h) ?_
                  refine Any.pass 15 rfl rfl rfl rfl (by kernel_rfl) (fun _ _ _ _ _ h => h) ?_
                  refine Any.passU 16 rfl rfl rfl rfl rfl (by kernel_rfl) (fun _ _ _ _ _ h => h) ?_
                  refine Any.passU 17 rfl rfl rfl rfl rfl (by kernel_rfl) (fun _ _ _ _ _ h => h) ?_
                  refine Any.passU 18 rfl rfl rfl rfl rfl (by kernel_rfl) (fun _ _ _ _ _ h => h) ?_
                  refine Any.passU 19 rfl rfl rfl rfl rfl (by kernel_rfl) (fun _ _ _ _ _ h => h) ?_
                  refine Any.pass 20 rfl rfl rfl rfl (by kernel_rfl) (fun _ _ _ _ _ h => h) ?_
                  refine Any.pass 21 rfl rfl rfl rfl (by kernel_rfl) (fun _ _ _ _ _ h => h) ?_
                  refine Any.passU 22 rfl rfl rfl rfl rfl (by kernel_rfl) (fun _ _ _ _ _ h => h) ?_
                  refine Any.passU 23 rfl rfl rfl rfl rfl (by kernel_rfl) (fun _ _ _ _ _ h => h) ?_
                  refine Any.passU 24 rfl rfl rfl rfl rfl (by kernel_rfl) (fun _ _ _ _ _ h => h) ?_
                  refine Any.passU 25 rfl rfl rfl rfl rfl (by kernel_rfl) (fun _ _ _ _ _ h => h) ?_
                  refine Any.pass 26 rfl rfl rfl rfl (by kernel_rfl) (fun _ _ _ _ _ h => h) ?_
                  refine Any.takeE 27 rfl rfl rfl rfl (by kernel_rfl) (fun _ _ _ _ _ h => h) (ExS.g ((Ex.pickF rfl rfl).s)) ?_
                  refine Any.takeE 28 rfl rfl rfl rfl (by kernel_rfl) (fun _ _ _ _ _ h => h) ((Ex.pickF rfl rfl).s) ?_
                  refine Any.done (by kernel_rfl) ?_
                  exact Run.sub (by exact subB_spec ⟨rfl, rfl, rfl, rfl, trivial⟩) (hj348 _ _ ⟨false, z361, hf, rfl, hm355, hy338_0, hy338_1, hz338, (St.forget hst361 1)⟩)
          · replace hf := ifFb hc hf
            refine Any.pass 2 rfl rfl rfl rfl (by kernel_rfl) (fun _ _ _ _ _ h => h) ?_
            refine Any.pass 3 rfl rfl rfl rfl (by kernel_rfl) (fun _ _ _ _ _ h => h) ?_
            refine Any.pass 4 rfl rfl rfl rfl (by kernel_rfl) (fun _ _ _ _ _ h => h) ?_
            refine Any.pass 5 rfl rfl rfl rfl (by kernel_rfl) (fun _ _ _ _ _ h => h) ?_
            refine Any.pass 6 rfl rfl rfl rfl (by kernel_rfl) (fun _ _ _ _ _ h => h) ?_
            refine Any.takeE 7 rfl rfl rfl rfl (by kernel_rfl) (fun _ _ _ _ _ h => h) ((Ex.pickF rfl rfl).s) ?_
            refine Any.takeE 8 rfl rfl rfl rfl (by kernel_rfl) (fun _ _ _ _ _ h => h) ((Ex.move rfl).s) ?_
            refine Any.takeE 9 rfl rfl rfl rfl (by kernel_rfl) (fun _ _ _ _ _ h => h) (ExS.g ((Ex.move rfl).s)) ?_
            refine Any.takeE 10 rfl rfl rfl rfl (by kernel_rfl) (fun _ _ _ _ _ h => h) (ExS.g ((Ex.not rfl).s)) ?_
            refine Any.takeE 11 rfl rfl rfl rfl (by kernel_rfl) (fun _ _ _ _ _ h => h) (ExS.g ((Ex.move rfl).s)) ?_
            refine Any.case 85 rfl (fun hc => ?_) (fun hc => ?_)
            · replace hf := ifFb (bn_T hc) hf
              refine Any.takeE 12 rfl rfl rfl rfl (by kernel_rfl) (fun _ _ _ _ _ h => h) (ExS.g ((Ex.fieldAddr rfl Try.underlying29 rfl sz3).s)) ?_
              refine Any.take 0 13 rfl rfl rfl rfl rfl (by kernel_rfl) (fun _ _ _ _ _ h => h) (ExS.g (ExS.load rfl Try.underlying3 rfl (fun w hS => by obtain ⟨_, _, _, hs⟩ := hS; exact hs.cell (i := 1) rfl rfl))) hS0 ?_
              refine Any.takeE 14 rfl rfl rfl rfl (by kernel_rfl) (fun _ _ _ _ _ h => h) (ExS.g ((Ex.neqI rfl rfl).s)) ?_
              refine Any.takeE 15 rfl rfl rfl rfl (by kernel_rfl) (fun _ _ _ _ _ h => h) (ExS.g ((Ex.move rfl).s)) ?_
              refine Any.case 89 rfl (fun hc => ?_) (fun hc => ?_)
              · replace hf := ifF (neq_T hc) hf
                refine Any.pass 16 rfl rfl rfl rfl (by kernel_rfl) (fun _ _ _ _ _ h => h) ?_
                refine Any.pass 17 rfl rfl rfl rfl (by kernel_rfl) (fun _ _ _ _ _ h => h) ?_
                refine Any.pass 18 rfl rfl rfl rfl (by kernel_rfl) (fun _ _ _ _ _ h => h) ?_
                refine Any.pass 19 rfl rfl rfl rfl (by kernel_rfl) (fun _ _ _ _ _ h => h) ?_
                refine Any.takeE 20 rfl rfl rfl rfl (by kernel_rfl) (fun _ _ _ _ _ h => h) (ExS.g ((Ex.pickT rfl rfl).s)) ?_
                refine Any.takeE 21 rfl rfl rfl rfl (by kernel_rfl) (fun _ _ _ _ _ h => h) (ExS.g ((Ex.move rfl).s)) ?_
                refine Any.pass 22 rfl rfl rfl rfl (by kernel_rfl) (fun _ _ _ _ _ h => h) ?_
                refine Any.pass 23 rfl rfl rfl rfl (by kernel_rfl) (fun _ _ _ _ _ h => h) ?_
                refine Any.pass 24 rfl rfl rfl rfl (by kernel_rfl) (fun _ _ _ _ _ h => h) ?_
                refine Any.pass 25 rfl rfl rfl rfl (by kernel_rfl) (fun _ _ _ _ _ h => h) ?_
                refine Any.takeE 26 rfl rfl rfl rfl (by kernel_rfl) (fun _ _ _ _ _ h => h) (ExS.g ((Ex.pickT rfl rfl).s)) ?_
                refine Any.takeE 27 rfl rfl rfl rfl (by kernel_rfl) (fun _ _ _ _ _ h => h) (ExS.g ((Ex.pickT rfl rfl).s)) ?_
                refine Any.takeE 28 rfl rfl rfl rfl (by kernel_rfl) (fun _ _ _ _ _ h => h) ((Ex.pickF rfl rfl).s) ?_
                refine Any.done (by kernel_rfl) ?_
                exact Run.sub (by exact subB_spec ⟨rfl, rfl, rfl, rfl, trivial⟩) (hj348 _ _ ⟨true, z341, hf, rfl, hm355, hy338_0, hy338_1, hz338, (St.forget hst358 1)⟩)
              · replace hf := ifT (neq_F hc) hf
                refine Any.takeE 16 rfl rfl rfl rfl (by kernel_rfl) (fun _ _ _ _ _ h => h) (ExS.g ((Ex.fieldAddr rfl Try.underlying29 rfl sz26).s)) ?_
                refine Any.take 0 17 rfl rfl rfl rfl rfl (by kernel_rfl) (fun _ _ _ _ _ h => h) (ExS.g (ExS.load rfl Try.underlying26 rfl (fun w hS => by obtain ⟨_, _, _, hs⟩ := hS; exact hs.cell (i := 1) rfl rfl))) hS0 ?_
                refine Any.takeE 18 rfl rfl rfl rfl (by kernel_rfl) (fun _ _ _ _ _ h => h) (ExS.g ((Ex.len' rfl rfl rfl Try.underlying26).s)) ?_
                refine Any.takeE 19 rfl rfl rfl rfl (by kernel_rfl) (fun _ _ _ _ _ h => h) (ExS.g ((Ex.neqI rfl rfl).s)) ?_
                refine Any.takeE 20 rfl rfl rfl rfl (by kernel_rfl) (fun _ _ _ _ _ h => h) (ExS.g ((Ex.pickF rfl rfl).s)) ?_
                refine Any.takeE 21 rfl rfl rfl rfl (by kernel_rfl) (fun _ _ _ _ _ h => h) (ExS.g ((Ex.move rfl).s)) ?_
                refine Any.case 95 rfl (fun hc => ?_) (fun hc => ?_)
                · replace hf := ifF (neq_T hc) hf
                  refine Any.pass 22 rfl rfl rfl rfl (by kernel_rfl) (fun _ _ _ _ _ h => h) ?_
                  refine Any.pass 23 rfl rfl rfl rfl (by kernel_rfl) (fun _ _ _ _ _ h => h) ?_
                  refine Any.pass 24 rfl rfl rfl rfl (by kernel_rfl) (fun _ _ _ _ _ h => h) ?_
                  refine Any.pass 25 rfl rfl rfl rfl (by kernel_rfl) (fun _ _ _ _ _ h => h) ?_
                  refine Any.takeE 26 rfl rfl rfl rfl (by kernel_rfl) (fun _ _ _ _ _ h => h) (ExS.g ((Ex.pickT rfl rfl).s)) ?_
                  refine Any.takeE 27 rfl rfl rfl rfl (by kernel_rfl) (fun _ _ _ _ _ h => h) (ExS.g ((Ex.pickT rfl rfl).s)) ?_
                  refine Any.takeE 28 rfl rfl rfl rfl (by kernel_rfl) (fun _ _ _ _ _ h => h) ((Ex.pickF rfl rfl).s) ?_
                  refine Any.done (by kernel_rfl) ?_
                  exact Run.sub (by exact subB_spec ⟨rfl, rfl, rfl, rfl, trivial⟩) (hj348 _ _ ⟨true, z341, hf, rfl, hm355, hy338_0, hy338_1, hz338, (St.forget hst358 1)⟩)
                · replace hf := ifT (neq_F hc) hf
                  refine Any.takeE 22 rfl rfl rfl rfl (by kernel_rfl) (fun _ _ _ _ _ h => h) (ExS.g ((Ex.fieldAddr rfl Try.underlying29 rfl sz27).s)) ?_
                  refine Any.take 0 23 rfl rfl rfl rfl rfl (by kernel_rfl) (fun _ _ _ _ _ h => h) (ExS.g (ExS.load rfl Try.underlying27 rfl (fun w hS => by obtain ⟨_, _, _, hs⟩ := hS; exact hs.cell (i := 1) rfl rfl))) hS0 ?_
                  refine Any.takeE 24 rfl rfl rfl rfl (by kernel_rfl) (fun _ _ _ _ _ h => h) (ExS.g ((Ex.len' rfl rfl rfl Try.underlying27).s)) ?_
                  refine Any.takeE 25 rfl rfl rfl rfl (by kernel_rfl) (fun _ _ _ _ _ h => h) (ExS.g ((Ex.neqI rfl rfl).s)) ?_
                  refine Any.takeE 26 rfl rfl rfl rfl (by kernel_rfl) (fun _ _ _ _ _ h => h) (ExS.g ((Ex.pickF rfl rfl).s)) ?_
                  refine Any.takeE 27 rfl rfl rfl rfl (by kernel_rfl) (fun _ _ _ _ _ h => h) (ExS.g ((Ex.pickT rfl rfl).s)) ?_
                  refine Any.takeE 28 rfl rfl rfl rfl (by kernel_rfl) (fun _ _ _ _ _ h => h) ((Ex.pickF rfl rfl).s) ?_
                  refine Any.done (by kernel_rfl) ?_
                  exact Run.sub (by exact subB_spec ⟨rfl, rfl, rfl, rfl, trivial⟩) (hj348 _ _ ⟨!(decide ((y341.1.Drop.length : Int) = 0)), z341, hf, rfl, hm355, hy338_0, hy338_1, hz338, (St.forget hst358 1)⟩)
            · replace hf := ifTb (bn_F hc) hf
              refine Any.pass 12 rfl rfl rfl rfl (by kernel_rfl) (fun _ _ _ _ _ h => h) ?_
              refine Any.pass 13 rfl rfl rfl rfl (by kernel_rfl) (fun _ _ _ _ _ h => h) ?_
              refine Any.pass 14 rfl rfl rfl rfl (by kernel_rfl) (fun _ _ _ _ _ h => h) ?_
              refine Any.pass 15 rfl rfl rfl rfl (by kernel_rfl) (fun _ _ _ _ _ h => h) ?_
              refine Any.passU 16 rfl rfl rfl rfl rfl (by kernel_rfl) (fun _ _ _ _ _ h => h) ?_
              refine Any.passU 17 rfl rfl rfl rfl rfl (by kernel_rfl) (fun _ _ _ _ _ h => h) ?_
              refine Any.passU 18 rfl rfl rfl rfl rfl (by kernel_rfl) (fun _ _ _ _ _ h => h) ?_
              refine Any.passU 19 rfl rfl rfl rfl rfl (by kernel_rfl) (fun _ _ _ _ _ h => h) ?_
              refine Any.pass 20 rfl rfl rfl rfl (by kernel_rfl) (fun _ _ _ _ _ h => h) ?_
              refine Any.pass 21 rfl rfl rfl rfl (by kernel_rfl) (fun _ _ _ _ _ h => h) ?_
              refine Any.passU 22 rfl rfl rfl rfl rfl (by kernel_rfl) (fun _ _ _ _ _ h => h) ?_
              refine Any.passU 23 rfl rfl rfl rfl rfl (by kernel_rfl) (fun _ _ _ _ _ h => h) ?_
              refine Any.passU 24 rfl rfl rfl rfl rfl (by kernel_rfl) (fun _ _ _ _ _ h => h) ?_
              refine Any.passU 25 rfl rfl rfl rfl rfl (by kernel_rfl) (fun _ _ _ _ _ h => h) ?_
              refine Any.pass 26 rfl rfl rfl rfl (by kernel_rfl) (fun _ _ _ _ _ h => h) ?_
              refine Any.takeE 27 rfl rfl rfl rfl (by kernel_rfl) (fun _ _ _ _ _ h => h) (ExS.g ((Ex.pickF rfl rfl).s)) ?_
              refine Any.takeE 28 rfl rfl rfl rfl (by kernel_rfl) (fun _ _ _ _ _ h => h) ((Ex.pickF rfl rfl).s) ?_
              refine Any.done (by kernel_rfl) ?_
              exact Run.sub (by exact subB_spec ⟨rfl, rfl, rfl, rfl, trivial⟩) (hj348 _ _ ⟨false, z341, hf, rfl, hm355, hy338_0, hy338_1, hz338, (St.forget hst358 1)⟩)
        · rintro e' w363 ⟨b357, z356, hf, rfl, hz363, hy363_0, hy363_1, hy363_2, hst363⟩
          replace f247 := f247.mono hz363
          unfold go_law10_EditsRead.j1 at hf
          refine Run.cond rfl (fun hc => ?_) (fun hc => ?_)
          · replace hf := ifTb hc hf
            refine Run.seq ?_
            refine Run.region ?_
            refine Ops.ex (Ex.assign rfl) rfl rfl rfl ?_
            refine Ops.nil ?_
            obtain rfl := Option.some.inj hf
            exact Run.retV [vb false] rfl ⟨rfl, trivial⟩ ⟨z356, rfl, hy363_0, (St.forget hst363 1)⟩
          · replace hf := ifFb hc hf
            refine Run.skip ?_
            refine Run.endBlk ?_
            refine Run.region ?_
            refine Ops.ex (Ex.add rfl rfl) rfl rfl rfl ?_
            refine Ops.ex (Ex.move rfl) rfl rfl rfl ?_
            refine Ops.nil ?_
            refine Run.re 65 rfl (congrArg vi (wr_succ' hl281 hc281)) ?_
            exact Run.sub (by exact subB_spec ⟨rfl, rfl, rfl, trivial⟩) (Run.stop ⟨l247.length - (i281 + 1), by omega, i281 + 1, z356, rfl, by omega, (hnxb281 _).symm.trans hf, rfl, hy363_2, hy363_0, hy363_1, hst363⟩)
      · replace hf := forL_out hf (nlt_of_dec hc)
        try dsimp only at hf
        refine Run.exit _ rfl ?_
        refine Run.seq ?_
        refine Run.region ?_
        refine Ops.ex (Ex.assign rfl) rfl rfl rfl ?_
        refine Ops.nil ?_
        obtain rfl := Option.some.inj hf
        exact Run.retV [vb true] rfl ⟨rfl, trivial⟩ ⟨z337, rfl, hy338_0, (St.forget hst338 1)⟩
end Go.Proofs.Ytjlhookdigbjhaa.E6
