/- View: ViewNode, ViewRefs. -/
import Derived.Test.YtfomkndngnfneaaDoorV1
namespace Go.Proofs.YtfomkndngnfneaaDoor.V2
open Go Go.RowKit Go.Proofs.YtfomkndngnfneaaDoor.Sx Go.Proofs.YtfomkndngnfneaaDoor.V1
set_option linter.unusedVariables false
set_option linter.unusedSimpArgs false
theorem zr37 : (Tryd.prog.info? 37).map (·.zero) = some (some (.agg #[.slice none 0 0, .int .i64 0])) := by kernel_rfl
theorem pl37 {fs : Array Field} (h : Tryd.prog.underlying 37 = some (.struct fs)) (w : World) : (fs.mapM fun f => do pure (f.offset, ← sizeOf f.type) : Sem (Array (Nat × Nat))).run Tryd.prog w = .ok #[(0, 1), (1, 1)] w := by
  rw [Tryd.underlying37] at h
  cases h
  kernel_rfl
def go_law20_ViewNode (p0 : Int8) (p1 : Int8) (p2 : UInt8) : Option Bool :=
  (go_law20_awake).bind fun y4 => if y4 then ((go_view_Node (⟨p0.toInt, (p2.toNat : Int), 0, ⟨0, 0, []⟩, p1.toInt, 3, ⟨false, false, false⟩, ⟨0, 0, 0⟩, ⟨0, 0, 0⟩, 0⟩ : nodeNode)).bind fun y13 => (go_law20_line (⟨p0.toInt, (p2.toNat : Int), 0, ⟨0, 0, []⟩, p1.toInt, 3, ⟨false, false, false⟩, ⟨0, 0, 0⟩, ⟨0, 0, 0⟩, 0⟩ : nodeNode)).bind fun y15 => if y13 = y15 then ((go_view_Node (⟨p0.toInt, (p2.toNat : Int), 0, ⟨0, 0, []⟩, p1.toInt, 3, ⟨false, false, false⟩, ⟨0, 0, 0⟩, ⟨0, 0, 0⟩, 0⟩ : nodeNode)).bind fun y17 => (go_view_Node (⟨p0.toInt, wr ((p2.toNat : Int) + 1), 0, ⟨0, 0, []⟩, p1.toInt, 3, ⟨false, false, false⟩, ⟨0, 0, 0⟩, ⟨0, 0, 0⟩, 0⟩ : nodeNode)).bind fun y19 => some (!(decide (y17 = y19)))) else (some false)) else (some false)
set_option maxRecDepth 100000 in
set_option maxHeartbeats 4000000 in
theorem go_law20_ViewNode.walk {w0 w : World} {X : List Res} {z0 : Zp} {p0 : Int8} {p1 : Int8} {p2 : UInt8} {r : Bool} (hst : Ht w0 (frz z0 :: X) w) (hT : VM.TB z0) (hf : go_law20_ViewNode p0 p1 p2 = some r) :
    Calls Tryd.prog 3 #[vi8 p0, vi8 p1, vu8 p2] w fun e w' => ∃ (z' : Zp), e = .returned (vb r) ∧ Le z0 z' ∧ Ht w0 (frz z' :: X) w' := by
  refine calls_np Tryd.func3 rfl rfl ?_
  have hle0 := Le.refl z0
  unfold go_law20_ViewNode at hf
  refine Run.seq ?_
  refine Run.region ?_
  refine Ops.ex (Ex.assign rfl) rfl rfl rfl ?_
  refine Ops.nil ?_
  refine Run.seq ?_
  refine Run.seq ?_
  refine Run.region ?_
  obtain ⟨y4, hy4, hf⟩ := bnd hf
  refine Ops.call rfl rfl Tryd.func7 (by kernel_rfl) (by kernel_rfl) rfl (go_law20_awake.walk (hst := hst) (hT := hT) (hf := hy4)) ?_
  rintro _ w4 ⟨z4, rfl, hz4, hst4⟩
  refine ⟨_, rfl, ?_⟩
  replace hT := hT.mono hz4
  replace hle0 := hle0.trans hz4
  refine Ops.ex (Ex.not rfl) rfl rfl rfl ?_
  refine Ops.nil ?_
  refine Run.cond rfl (fun hc => ?_) (fun hc => ?_)
  · replace hf := ifFb (bn_T hc) hf
    refine Run.seq ?_
    refine Run.region ?_
    refine Ops.ex (Ex.assign rfl) rfl rfl rfl ?_
    refine Ops.nil ?_
    obtain rfl := Option.some.inj hf
    exact Run.retV [vb false] rfl ⟨rfl, trivial⟩ ⟨z4, rfl, hle0, hst4⟩
  · replace hf := ifTb (bn_F hc) hf
    refine Run.skip ?_
    refine Run.seq ?_
    refine Run.region ?_
    refine Ops.ex (Ex.move rfl) rfl rfl rfl ?_
    refine Ops.ex (Ex.ci8 rfl Tryd.underlying22 Tryd.underlying3) rfl rfl rfl ?_
    refine Ops.ex (Ex.move rfl) rfl rfl rfl ?_
    refine Ops.ex (Ex.ci8 rfl Tryd.underlying22 Tryd.underlying24) rfl rfl rfl ?_
    refine Ops.ex (Ex.move rfl) rfl rfl rfl ?_
    refine Ops.ex (Ex.cu8 rfl Tryd.underlying5 Tryd.underlying3) rfl rfl rfl ?_
    refine Ops.ex (Ex.build [vi p0.toInt, vi (p2.toNat : Int), vi 0, vi 0, vi 0, .slice none 0 0, vi p1.toInt, vi 3, vb false, vb false, vb false, vi 0, vi 0, vi 0, vi 0, vi 0, vi 0, vi 0] rfl Tryd.underlying31 zr31 (pl31 Tryd.underlying31) (by kernel_rfl)) rfl rfl rfl ?_
    refine Ops.allocF [vi 0, vi 0, vi 0, vi 0, vi 0, .slice none 0 0, vi 0, vi 0, vb false, vb false, vb false, vi 0, vi 0, vi 0, vi 0, vi 0, vi 0, vi 0] hst4 zr31 rfl rfl (fun g6 w6 hst6 => ?_)
    refine Ops.store 1 [vi p0.toInt, vi (p2.toNat : Int), vi 0, vi 0, vi 0, .slice none 0 0, vi p1.toInt, vi 3, vb false, vb false, vb false, vi 0, vi 0, vi 0, vi 0, vi 0, vi 0, vi 0] hst6 rfl rfl rfl rfl sz31 rfl (by simp [Value.oneCell']) (by simp) (fun w7 hst7 => ?_)
    refine Ops.nil ?_
    refine Run.seq ?_
    refine Run.region ?_
    refine Ops.loadAgg _ rfl Tryd.underlying31 rfl sz31 rfl (hst7.cells (i := 1) rfl 0 18) rfl ?_
    refine Ops.allocF [vi 0, vi 0, vi 0, vi 0, vi 0, .slice none 0 0, vi 0, vi 0, vb false, vb false, vb false, vi 0, vi 0, vi 0, vi 0, vi 0, vi 0, vi 0] hst7 zr31 rfl rfl (fun g8 w8 hst8 => ?_)
    refine Ops.store 1 [vi p0.toInt, vi (p2.toNat : Int), vi 0, vi 0, vi 0, .slice none 0 0, vi p1.toInt, vi 3, vb false, vb false, vb false, vi 0, vi 0, vi 0, vi 0, vi 0, vi 0, vi 0] hst8 rfl rfl rfl rfl sz31 rfl (by simp [Value.oneCell']) (by simp) (fun w9 hst9 => ?_)
    refine Ops.nil ?_
    refine Run.seq ?_
    refine Run.region ?_
    refine Ops.ex (Ex.fieldAddr rfl Tryd.underlying31 rfl sz3) rfl rfl rfl ?_
    refine Ops.load rfl Tryd.underlying3 rfl (hst9.cell (i := 1) rfl rfl) rfl ?_
    refine Ops.ex (Ex.add rfl rfl) rfl rfl rfl ?_
    refine Ops.ex (Ex.fieldAddr rfl Tryd.underlying31 rfl sz3) rfl rfl rfl ?_
    refine Ops.store 1 [vi (wr ((p2.toNat : Int) + 1))] hst9 rfl rfl rfl rfl sz3 rfl (by simp [Value.oneCell']) (by simp) (fun w10 hst10 => ?_)
    refine Ops.nil ?_
    refine Run.seq ?_
    have hm12 := Le.refl z4
    refine Run.drawH [([], fun w => ∃ ζ Y, Le z4 ζ ∧ Ht w0 (frz ζ :: (blk g8 [vi p0.toInt, vi (wr ((p2.toNat : Int) + 1)), vi 0, vi 0, vi 0, .slice none 0 0, vi p1.toInt, vi 3, vb false, vb false, vb false, vi 0, vi 0, vi 0, vi 0, vi 0, vi 0, vi 0] 31) :: (blk g6 [vi p0.toInt, vi (p2.toNat : Int), vi 0, vi 0, vi 0, .slice none 0 0, vi p1.toInt, vi 3, vb false, vb false, vb false, vi 0, vi 0, vi 0, vi 0, vi 0, vi 0, vi 0] 31) :: Y) w)] (by kernel_rfl) hst10 (fun w11 hst11 => ?_)
    have hS0 := (⟨_, _, (Le.refl _), (St.up (St.up (St.up hst11 2 rfl) 2 rfl) 2 rfl)⟩ : (fun w => ∃ ζ Y, Le z4 ζ ∧ Ht w0 (frz ζ :: (blk g8 [vi p0.toInt, vi (wr ((p2.toNat : Int) + 1)), vi 0, vi 0, vi 0, .slice none 0 0, vi p1.toInt, vi 3, vb false, vb false, vb false, vi 0, vi 0, vi 0, vi 0, vi 0, vi 0, vi 0] 31) :: (blk g6 [vi p0.toInt, vi (p2.toNat : Int), vi 0, vi 0, vi 0, .slice none 0 0, vi p1.toInt, vi 3, vb false, vb false, vb false, vi 0, vi 0, vi 0, vi 0, vi 0, vi 0, vi 0] 31) :: Y) w) _)
    refine Any.take 0 0 rfl rfl rfl rfl rfl (by kernel_rfl) (fun _ _ _ _ _ h => h) (ExS.loadAgg [vi p0.toInt, vi (p2.toNat : Int), vi 0, vi 0, vi 0, .slice none 0 0, vi p1.toInt, vi 3, vb false, vb false, vb false, vi 0, vi 0, vi 0, vi 0, vi 0, vi 0, vi 0] rfl Tryd.underlying31 rfl sz31 rfl (fun w hS => by obtain ⟨_, _, _, hs⟩ := hS; exact hs.cells (i := 2) rfl 0 18)) hS0 ?_
    refine Any.take 0 2 rfl rfl rfl rfl rfl (by kernel_rfl) (fun _ _ _ _ _ h => h) (ExS.loadAgg [vi p0.toInt, vi (p2.toNat : Int), vi 0, vi 0, vi 0, .slice none 0 0, vi p1.toInt, vi 3, vb false, vb false, vb false, vi 0, vi 0, vi 0, vi 0, vi 0, vi 0, vi 0] rfl Tryd.underlying31 rfl sz31 rfl (fun w hS => by obtain ⟨_, _, _, hs⟩ := hS; exact hs.cells (i := 2) rfl 0 18)) hS0 ?_
    obtain ⟨y13, hy13, hf⟩ := bnd hf
    refine Any.one 1 (by kernel_rfl) rfl rfl (One.of_ops rfl ?_)
    refine Ops.call rfl rfl Tryd.func8 (by kernel_rfl) (by kernel_rfl) rfl (go_view_Node.walk (p0 := (⟨p0.toInt, (p2.toNat : Int), 0, ⟨0, 0, []⟩, p1.toInt, 3, ⟨false, false, false⟩, ⟨0, 0, 0⟩, ⟨0, 0, 0⟩, 0⟩ : nodeNode)) (hst := hst11) (f6 := Sl.nil _ _) (hT := hT) (hf := hy13)) ?_
    rintro _ w13 ⟨z13, rfl, hz13, hst13⟩
    refine ⟨_, rfl, Ops.stop ?_⟩
    replace hT := hT.mono hz13
    replace hle0 := hle0.trans hz13
    replace hm12 := hm12.trans hz13
    have hS0 := (⟨_, _, hm12, (St.up (St.up (St.up hst13 2 rfl) 2 rfl) 2 rfl)⟩ : (fun w => ∃ ζ Y, Le z4 ζ ∧ Ht w0 (frz ζ :: (blk g8 [vi p0.toInt, vi (wr ((p2.toNat : Int) + 1)), vi 0, vi 0, vi 0, .slice none 0 0, vi p1.toInt, vi 3, vb false, vb false, vb false, vi 0, vi 0, vi 0, vi 0, vi 0, vi 0, vi 0] 31) :: (blk g6 [vi p0.toInt, vi (p2.toNat : Int), vi 0, vi 0, vi 0, .slice none 0 0, vi p1.toInt, vi 3, vb false, vb false, vb false, vi 0, vi 0, vi 0, vi 0, vi 0, vi 0, vi 0] 31) :: Y) w) _)
    refine ⟨⟨.inr (fun _ => hS0), trivial⟩, ?_⟩
    obtain ⟨y15, hy15, hf⟩ := bnd hf
    refine Any.one 3 (by kernel_rfl) rfl rfl (One.of_ops rfl ?_)
    refine Ops.call rfl rfl Tryd.func9 (by kernel_rfl) (by kernel_rfl) rfl (go_law20_line.walk (p0 := (⟨p0.toInt, (p2.toNat : Int), 0, ⟨0, 0, []⟩, p1.toInt, 3, ⟨false, false, false⟩, ⟨0, 0, 0⟩, ⟨0, 0, 0⟩, 0⟩ : nodeNode)) (hst := hst13) (f6 := Sl.nil _ _) (hf := hy15)) ?_
    rintro _ w15 ⟨z15, rfl, hz15, hst15⟩
    refine ⟨_, rfl, Ops.stop ?_⟩
    replace hT := hT.mono hz15
    replace hle0 := hle0.trans hz15
    replace hm12 := hm12.trans hz15
    have hS0 := (⟨_, _, hm12, (St.up (St.up (St.up hst15 2 rfl) 2 rfl) 2 rfl)⟩ : (fun w => ∃ ζ Y, Le z4 ζ ∧ Ht w0 (frz ζ :: (blk g8 [vi p0.toInt, vi (wr ((p2.toNat : Int) + 1)), vi 0, vi 0, vi 0, .slice none 0 0, vi p1.toInt, vi 3, vb false, vb false, vb false, vi 0, vi 0, vi 0, vi 0, vi 0, vi 0, vi 0] 31) :: (blk g6 [vi p0.toInt, vi (p2.toNat : Int), vi 0, vi 0, vi 0, .slice none 0 0, vi p1.toInt, vi 3, vb false, vb false, vb false, vi 0, vi 0, vi 0, vi 0, vi 0, vi 0, vi 0] 31) :: Y) w) _)
    refine ⟨⟨.inr (fun _ => hS0), trivial⟩, ?_⟩
    refine Any.takeE 4 rfl rfl rfl rfl (by kernel_rfl) (fun _ _ _ _ _ h => h) ((Ex.eqlT rfl rfl).s) ?_
    refine Any.takeE 5 rfl rfl rfl rfl (by kernel_rfl) (fun _ _ _ _ _ h => h) ((Ex.move rfl).s) ?_
    refine Any.case 28 rfl (fun hc => ?_) (fun hc => ?_)
    · replace hf := ifT (dec_T hc) hf
      refine Any.take 0 6 rfl rfl rfl rfl rfl (by kernel_rfl) (fun _ _ _ _ _ h => h) (ExS.g (ExS.loadAgg [vi p0.toInt, vi (p2.toNat : Int), vi 0, vi 0, vi 0, .slice none 0 0, vi p1.toInt, vi 3, vb false, vb false, vb false, vi 0, vi 0, vi 0, vi 0, vi 0, vi 0, vi 0] rfl Tryd.underlying31 rfl sz31 rfl (fun w hS => by obtain ⟨_, _, _, hs⟩ := hS; exact hs.cells (i := 2) rfl 0 18))) hS0 ?_
      refine Any.take 0 8 rfl rfl rfl rfl rfl (by kernel_rfl) (fun _ _ _ _ _ h => h) (ExS.g (ExS.loadAgg [vi p0.toInt, vi (wr ((p2.toNat : Int) + 1)), vi 0, vi 0, vi 0, .slice none 0 0, vi p1.toInt, vi 3, vb false, vb false, vb false, vi 0, vi 0, vi 0, vi 0, vi 0, vi 0, vi 0] rfl Tryd.underlying31 rfl sz31 rfl (fun w hS => by obtain ⟨_, _, _, hs⟩ := hS; exact hs.cells (i := 1) rfl 0 18))) hS0 ?_
      obtain ⟨y17, hy17, hf⟩ := bnd hf
      refine Any.one 7 (by kernel_rfl) rfl rfl (One.g <| One.of_ops rfl ?_)
      refine Ops.call rfl rfl Tryd.func8 (by kernel_rfl) (by kernel_rfl) rfl (go_view_Node.walk (p0 := (⟨p0.toInt, (p2.toNat : Int), 0, ⟨0, 0, []⟩, p1.toInt, 3, ⟨false, false, false⟩, ⟨0, 0, 0⟩, ⟨0, 0, 0⟩, 0⟩ : nodeNode)) (hst := hst15) (f6 := Sl.nil _ _) (hT := hT) (hf := hy17)) ?_
      rintro _ w17 ⟨z17, rfl, hz17, hst17⟩
      refine ⟨_, rfl, Ops.stop ?_⟩
      replace hT := hT.mono hz17
      replace hle0 := hle0.trans hz17
      replace hm12 := hm12.trans hz17
      have hS0 := (⟨_, _, hm12, (St.up (St.up (St.up hst17 2 rfl) 2 rfl) 2 rfl)⟩ : (fun w => ∃ ζ Y, Le z4 ζ ∧ Ht w0 (frz ζ :: (blk g8 [vi p0.toInt, vi (wr ((p2.toNat : Int) + 1)), vi 0, vi 0, vi 0, .slice none 0 0, vi p1.toInt, vi 3, vb false, vb false, vb false, vi 0, vi 0, vi 0, vi 0, vi 0, vi 0, vi 0] 31) :: (blk g6 [vi p0.toInt, vi (p2.toNat : Int), vi 0, vi 0, vi 0, .slice none 0 0, vi p1.toInt, vi 3, vb false, vb false, vb false, vi 0, vi 0, vi 0, vi 0, vi 0, vi 0, vi 0] 31) :: Y) w) _)
      refine ⟨⟨.inr (fun _ => hS0), trivial⟩, ?_⟩
      obtain ⟨y19, hy19, hf⟩ := bnd hf
      refine Any.one 9 (by kernel_rfl) rfl rfl (One.g <| One.of_ops rfl ?_)
      refine Ops.call rfl rfl Tryd.func8 (by kernel_rfl) (by kernel_rfl) rfl (go_view_Node.walk (p0 := (⟨p0.toInt, wr ((p2.toNat : Int) + 1), 0, ⟨0, 0, []⟩, p1.toInt, 3, ⟨false, false, false⟩, ⟨0, 0, 0⟩, ⟨0, 0, 0⟩, 0⟩ : nodeNode)) (hst := hst17) (f6 := Sl.nil _ _) (hT := hT) (hf := hy19)) ?_
      rintro _ w19 ⟨z19, rfl, hz19, hst19⟩
      refine ⟨_, rfl, Ops.stop ?_⟩
      replace hT := hT.mono hz19
      replace hle0 := hle0.trans hz19
      replace hm12 := hm12.trans hz19
      have hS0 := (⟨_, _, hm12, (St.up (St.up (St.up hst19 2 rfl) 2 rfl) 2 rfl)⟩ : (fun w => ∃ ζ Y, Le z4 ζ ∧ Ht w0 (frz ζ :: (blk g8 [vi p0.toInt, vi (wr ((p2.toNat : Int) + 1)), vi 0, vi 0, vi 0, .slice none 0 0, vi p1.toInt, vi 3, vb false, vb false, vb false, vi 0, vi 0, vi 0, vi 0, vi 0, vi 0, vi 0] 31) :: (blk g6 [vi p0.toInt, vi (p2.toNat : Int), vi 0, vi 0, vi 0, .slice none 0 0, vi p1.toInt, vi 3, vb false, vb false, vb false, vi 0, vi 0, vi 0, vi 0, vi 0, vi 0, vi 0] 31) :: Y) w) _)
      refine ⟨⟨.inr (fun _ => hS0), trivial⟩, ?_⟩
      refine Any.takeE 10 rfl rfl rfl rfl (by kernel_rfl) (fun _ _ _ _ _ h => h) (ExS.g ((Ex.neqT rfl rfl).s)) ?_
      refine Any.takeE 11 rfl rfl rfl rfl (by kernel_rfl) (fun _ _ _ _ _ h => h) ((Ex.pickT rfl rfl).s) ?_
      refine Any.takeE 12 rfl rfl rfl rfl (by kernel_rfl) (fun _ _ _ _ _ h => h) ((Ex.assign rfl).s) ?_
      refine Any.done (by kernel_rfl) ?_
      obtain rfl := Option.some.inj hf
      exact Run.retV [vb (!(decide (y17 = y19)))] rfl ⟨rfl, trivial⟩ ⟨z19, rfl, hle0, (St.forget (St.forget hst19 2) 1)⟩
    · replace hf := ifF (dec_F hc) hf
      refine Any.pass 6 rfl rfl rfl rfl (by kernel_rfl) (fun _ _ _ _ _ h => h) ?_
      refine Any.pass 7 rfl rfl rfl rfl (by kernel_rfl) (fun _ _ _ _ _ h => h) ?_
      refine Any.pass 8 rfl rfl rfl rfl (by kernel_rfl) (fun _ _ _ _ _ h => h) ?_
      refine Any.pass 9 rfl rfl rfl rfl (by kernel_rfl) (fun _ _ _ _ _ h => h) ?_
      refine Any.pass 10 rfl rfl rfl rfl (by kernel_rfl) (fun _ _ _ _ _ h => h) ?_
      refine Any.takeE 11 rfl rfl rfl rfl (by kernel_rfl) (fun _ _ _ _ _ h => h) ((Ex.pickF rfl rfl).s) ?_
      refine Any.takeE 12 rfl rfl rfl rfl (by kernel_rfl) (fun _ _ _ _ _ h => h) ((Ex.assign rfl).s) ?_
      refine Any.done (by kernel_rfl) ?_
      obtain rfl := Option.some.inj hf
      exact Run.retV [vb false] rfl ⟨rfl, trivial⟩ ⟨z15, rfl, hle0, (St.forget (St.forget hst15 2) 1)⟩
def go_law20_ViewRefs.b1 (p1 : Int) (l5 : List apiRef) (i8 : Nat) (a8 : apiRef) : Str → (Str → Option Bool) → Option Bool :=
  fun s44 nxb8 => (go_view_Ref a8).bind fun y53 => (catI s44 y53).bind fun s55 => (cutI l5 0 (wr ((i8 : Int) + 1))).bind fun l56 => (go_view_Set (⟨l56, p1⟩ : editsSet)).bind fun y57 => if y57 = s55 then (nxb8 s55) else (some false)
def go_law20_ViewRefs (p0 : List apiRef) (p1 : Int) : Option Bool :=
  (go_law20_awake).bind fun y3 => if y3 then ((cutI p0 0 (min (p0.length : Int) 30)).bind fun l5 => (go_view_Set (⟨[], p1⟩ : editsSet)).bind fun y6 => forL (go_law20_ViewRefs.b1 p1 l5) (fun s44 => some (decide (7 < (s44.length : Int)))) 0 l5 y6) else (some false)
set_option maxRecDepth 100000 in
set_option maxHeartbeats 4000000 in
theorem go_law20_ViewRefs.walk {w0 w : World} {X : List Res} {z0 : Zp} {p0 : List apiRef} {A1 : Option Addr} {c1 : Nat} {p1 : Int} {r : Bool} (hst : Ht w0 (frz z0 :: X) w) (f1 : Sl tapiRef z0 A1 c1 p0) (hT : VM.TB z0) (hf : go_law20_ViewRefs p0 p1 = some r) :
    Calls Tryd.prog 4 #[.slice A1 p0.length c1, vi p1] w fun e w' => ∃ (z' : Zp), e = .returned (vb r) ∧ Le z0 z' ∧ Ht w0 (frz z' :: X) w' := by
  refine calls_np Tryd.func4 rfl rfl ?_
  have hle0 := Le.refl z0
  unfold go_law20_ViewRefs at hf
  refine Run.seq ?_
  refine Run.region ?_
  refine Ops.ex (Ex.assign rfl) rfl rfl rfl ?_
  refine Ops.nil ?_
  refine Run.seq ?_
  refine Run.seq ?_
  refine Run.region ?_
  obtain ⟨y3, hy3, hf⟩ := bnd hf
  refine Ops.call rfl rfl Tryd.func7 (by kernel_rfl) (by kernel_rfl) rfl (go_law20_awake.walk (hst := hst) (hT := hT) (hf := hy3)) ?_
  rintro _ w3 ⟨z3, rfl, hz3, hst3⟩
  refine ⟨_, rfl, ?_⟩
  replace f1 := f1.mono hz3; replace hT := hT.mono hz3
  replace hle0 := hle0.trans hz3
  refine Ops.ex (Ex.not rfl) rfl rfl rfl ?_
  refine Ops.nil ?_
  refine Run.cond rfl (fun hc => ?_) (fun hc => ?_)
  · replace hf := ifFb (bn_T hc) hf
    refine Run.seq ?_
    refine Run.region ?_
    refine Ops.ex (Ex.assign rfl) rfl rfl rfl ?_
    refine Ops.nil ?_
    obtain rfl := Option.some.inj hf
    exact Run.retV [vb false] rfl ⟨rfl, trivial⟩ ⟨z3, rfl, hle0, hst3⟩
  · replace hf := ifTb (bn_F hc) hf
    refine Run.skip ?_
    refine Run.seq ?_
    refine Run.region ?_
    refine Ops.ex (Ex.move rfl) rfl rfl rfl ?_
    refine Ops.ex (Ex.move rfl) rfl rfl rfl ?_
    refine Ops.ex (Ex.len' rfl rfl rfl Tryd.underlying34) rfl rfl rfl ?_
    refine Ops.ex (Ex.min2 rfl rfl rfl) rfl rfl rfl ?_
    obtain ⟨l5, hy5, hf⟩ := bnd hf
    obtain ⟨A5, c5, hA5, hB5, f5⟩ := SlH.sub f1.toH hy5
    replace f5 := f5.toS
    refine Ops.ex (Ex.subA hA5 hB5 hy5 rfl rfl Tryd.underlying34 sz40 rfl rfl) rfl rfl rfl ?_
    refine Ops.ex (Ex.assign rfl) rfl rfl rfl ?_
    refine Ops.nil ?_
    refine Run.seq ?_
    refine Run.region ?_
    refine Ops.ex (Ex.move rfl) rfl rfl rfl ?_
    refine Ops.ex (Ex.build [.slice none 0 0, vi p1] rfl Tryd.underlying37 zr37 (pl37 Tryd.underlying37) (by kernel_rfl)) rfl rfl rfl ?_
    obtain ⟨y6, hy6, hf⟩ := bnd hf
    refine Ops.call rfl rfl Tryd.func10 (by kernel_rfl) (by kernel_rfl) rfl (go_view_Set.walk (p0 := (⟨[], p1⟩ : editsSet)) (hst := hst3) (f1 := Sl.nil _ _) (hT := hT) (hf := hy6)) ?_
    rintro _ w6 ⟨z6, rfl, hz6, hst6⟩
    refine ⟨_, rfl, ?_⟩
    replace f5 := f5.mono hz6; replace f1 := f1.mono hz6; replace hT := hT.mono hz6
    replace hle0 := hle0.trans hz6
    refine Ops.ex (Ex.assign rfl) rfl rfl rfl ?_
    refine Ops.nil ?_
    refine Run.seq ?_
    refine Run.seq ?_
    refine Run.region ?_
    refine Ops.ex (Ex.move rfl) rfl rfl rfl ?_
    refine Ops.ex (Ex.len' rfl rfl rfl Tryd.underlying34) rfl rfl rfl ?_
    refine Ops.ex (Ex.move rfl) rfl rfl rfl ?_
    refine Ops.nil ?_
    refine Run.block ?_
    have hc8 := f5.cap
    have hm9 := Le.refl z6
    refine Run.sub (e' := [(0, .slice A5 l5.length c5), (1, vi p1), (5, vs y6), (18, .slice A5 l5.length c5), (19, vi (l5.length : Int)), (20, vi ((0 : Nat) : Int))]) (subB_spec ⟨rfl, rfl, rfl, rfl, rfl, rfl, trivial⟩) ?_
    refine Run.loop (fun mb8 => (fun e' w' => ∃ (i8 : Nat) (s44 : Str) (z43 : Zp), mb8 = l5.length - i8 ∧ i8 ≤ l5.length ∧ forL (go_law20_ViewRefs.b1 p1 l5) (fun s44 => some (decide (7 < (s44.length : Int)))) i8 (l5.drop i8) s44 = some r ∧ e' = [(0, .slice A5 l5.length c5), (1, vi p1), (5, vs s44), (18, .slice A5 l5.length c5), (19, vi (l5.length : Int)), (20, vi (i8 : Int))] ∧ Le z6 z43 ∧ Le z0 z43 ∧ Ht w0 (frz z43 :: X) w')) l5.length ⟨0, y6, z6, rfl, Nat.zero_le _, hf, rfl, hm9, hle0, hst6⟩ ?_
    rintro _ e' w45 ⟨i8, s44, z43, rfl, hi8, hf, rfl, hz45, hy45_0, hst45⟩
    replace f5 := f5.mono hz45; replace hT := hT.mono hz45
    refine Run.seq ?_
    refine Run.region ?_
    refine Ops.ex (Ex.lss rfl rfl) rfl rfl rfl ?_
    refine Ops.nil ?_
    refine Run.seq ?_
    refine Run.cond rfl (fun hc => ?_) (fun hc => ?_)
    · have hl8 := lt_of_dec hc
      obtain ⟨a8, nxb8, ha8, hnxb8, hf⟩ := forL_in hf hl8
      unfold go_law20_ViewRefs.b1 at hf
      try dsimp only at hf
      refine Run.skip ?_
      refine Run.seq ?_
      refine Run.block ?_
      refine Run.seq ?_
      refine Run.region ?_
      refine Ops.ex (Ex.move rfl) rfl rfl rfl ?_
      obtain ⟨g50, p50, o50, cs50, hA50, ho50, hr50, f50⟩ := SlH.elem f5.toH (atI_nat ha8)
      obtain rfl := hr50
      refine Ops.ex (Ex.ixA hA50 ho50 (atI_nat ha8) rfl rfl rfl Tryd.underlying34 sz40) rfl rfl rfl ?_
      refine Ops.loadAgg [vs a8.Name, vi a8.Kind, vi a8.From, vi a8.To] rfl Tryd.underlying40 rfl sz40 rfl (cells_of_zc rfl (f50.mono hst45.le)) rfl ?_
      refine Ops.allocF [vs [], vi 0, vi 0, vi 0] hst45 zr40 rfl rfl (fun g51 w51 hst51 => ?_)
      refine Ops.ex (Ex.assign rfl) rfl rfl rfl ?_
      refine Ops.store 1 [vs a8.Name, vi a8.Kind, vi a8.From, vi a8.To] hst51 rfl rfl rfl rfl sz40 rfl (by simp [Value.oneCell']) (by simp) (fun w52 hst52 => ?_)
      refine Ops.nil ?_
      refine Run.seq ?_
      refine Run.region ?_
      refine Ops.ex (Ex.move rfl) rfl rfl rfl ?_
      refine Ops.loadAgg _ rfl Tryd.underlying40 rfl sz40 rfl (hst52.cells (i := 1) rfl 0 4) rfl ?_
      obtain ⟨y53, hy53, hf⟩ := bnd hf
      refine Ops.call rfl rfl Tryd.func11 (by kernel_rfl) (by kernel_rfl) rfl (go_view_Ref.walk (p0 := a8) (hst := hst52) (hT := hT) (hf := hy53)) ?_
      rintro _ w53 ⟨z53, rfl, hz53, hst53⟩
      refine ⟨_, rfl, ?_⟩
      replace f5 := f5.mono hz53; replace f50 := f50.mono hz53; replace hT := hT.mono hz53
      replace hy45_0 := hy45_0.trans hz53
      replace hz45 := hz45.trans hz53
      obtain ⟨s55, hy55, hf⟩ := bnd hf
      refine Ops.ex (Ex.addT hy55 rfl rfl) rfl rfl rfl ?_
      refine Ops.ex (Ex.assign rfl) rfl rfl rfl ?_
      refine Ops.nil ?_
      refine Run.seq ?_
      refine Run.region ?_
      refine Ops.ex (Ex.move rfl) rfl rfl rfl ?_
      refine Ops.ex (Ex.move rfl) rfl rfl rfl ?_
      refine Ops.ex (Ex.move rfl) rfl rfl rfl ?_
      refine Ops.ex (Ex.add rfl rfl) rfl rfl rfl ?_
      obtain ⟨l56, hy56, hf⟩ := bnd hf
      obtain ⟨A56, c56, hA56, hB56, f56⟩ := SlH.sub f5.toH hy56
      replace f56 := f56.toS
      refine Ops.ex (Ex.subA hA56 hB56 hy56 rfl rfl Tryd.underlying34 sz40 rfl rfl) rfl rfl rfl ?_
      refine Ops.ex (Ex.build [.slice A56 l56.length c56, vi p1] rfl Tryd.underlying37 zr37 (pl37 Tryd.underlying37) (by kernel_rfl)) rfl rfl rfl ?_
      obtain ⟨y57, hy57, hf⟩ := bnd hf
      refine Ops.call rfl rfl Tryd.func10 (by kernel_rfl) (by kernel_rfl) rfl (go_view_Set.walk (p0 := (⟨l56, p1⟩ : editsSet)) (hst := hst53) (f1 := f56) (hT := hT) (hf := hy57)) ?_
      rintro _ w57 ⟨z57, rfl, hz57, hst57⟩
      refine ⟨_, rfl, ?_⟩
      replace f5 := f5.mono hz57; replace f50 := f50.mono hz57; replace f56 := f56.mono hz57; replace hT := hT.mono hz57
      replace hy45_0 := hy45_0.trans hz57
      replace hz45 := hz45.trans hz57
      refine Ops.ex (Ex.move rfl) rfl rfl rfl ?_
      refine Ops.ex (Ex.neqT rfl rfl) rfl rfl rfl ?_
      refine Ops.nil ?_
      refine Run.cond rfl (fun hc => ?_) (fun hc => ?_)
      · replace hf := ifF (neq_T hc) hf
        refine Run.seq ?_
        refine Run.region ?_
        refine Ops.ex (Ex.assign rfl) rfl rfl rfl ?_
        refine Ops.nil ?_
        obtain rfl := Option.some.inj hf
        exact Run.retV [vb false] rfl ⟨rfl, trivial⟩ ⟨z57, rfl, hy45_0, (St.forget hst57 1)⟩
      · replace hf := ifT (neq_F hc) hf
        refine Run.skip ?_
        refine Run.endBlk ?_
        refine Run.region ?_
        refine Ops.ex (Ex.add rfl rfl) rfl rfl rfl ?_
        refine Ops.ex (Ex.move rfl) rfl rfl rfl ?_
        refine Ops.nil ?_
        refine Run.re 20 rfl (congrArg vi (wr_succ' hl8 hc8)) ?_
        exact Run.sub (by exact subB_spec ⟨rfl, rfl, rfl, rfl, rfl, rfl, trivial⟩) (Run.stop ⟨l5.length - (i8 + 1), by omega, i8 + 1, s55, z57, rfl, by omega, (hnxb8 _).symm.trans hf, rfl, hz45, hy45_0, (St.forget hst57 1)⟩)
    · replace hf := forL_out hf (nlt_of_dec hc)
      try dsimp only at hf
      refine Run.exit _ rfl ?_
      refine Run.seq ?_
      refine Run.region ?_
      refine Ops.ex (Ex.move rfl) rfl rfl rfl ?_
      refine Ops.ex (Ex.lenT rfl rfl rfl Tryd.underlying9) rfl rfl rfl ?_
      refine Ops.ex (Ex.gtr rfl rfl) rfl rfl rfl ?_
      refine Ops.ex (Ex.assign rfl) rfl rfl rfl ?_
      refine Ops.nil ?_
      obtain rfl := Option.some.inj hf
      exact Run.retV [vb (decide (7 < (s44.length : Int)))] rfl ⟨rfl, trivial⟩ ⟨z43, rfl, hy45_0, hst45⟩
end Go.Proofs.YtfomkndngnfneaaDoor.V2
