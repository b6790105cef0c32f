/- Say.Cmd -/
import Derived.Test.YtiekoeapmhhjbaaGreatDoorProg
import Derived.Test.YtiekoeapmhhjbaaGreatDoorGnF
namespace Go.Proofs.YtiekoeapmhhjbaaGreatDoor.C1
open Go Go.RowKit Go.Proofs.YtiekoeapmhhjbaaGreatDoor.Sx
set_option linter.unusedVariables false
set_option linter.unusedSimpArgs false
structure law06Say where
  Op : UInt8
  Client : UInt8
  Seq : UInt8
  Key : UInt8
  Value : UInt8
  Old : UInt8
  deriving DecidableEq
def tlaw06Say : Ty law06Say where
  sz := 6
  R := fun ζ cs x => cs = [vu8 x.Op, vu8 x.Client, vu8 x.Seq, vu8 x.Key, vu8 x.Value, vu8 x.Old]
  len := by rintro ζ cs x rfl; rfl
  one := by
    rintro ζ cs x rfl u hu
    simp only [List.mem_cons, List.not_mem_nil, or_false] at hu
    rcases hu with rfl | rfl | rfl | rfl | rfl | rfl <;> rfl
  mono := by rintro ζ ζ' cs x rfl hl; exact rfl
structure apiCmd where
  Op : Int
  Client : Int
  Seq : Int
  Key : Str
  Value : Str
  Old : Str
  deriving DecidableEq
def tapiCmd : Ty apiCmd where
  sz := 6
  R := fun ζ cs x => cs = [vi x.Op, vi x.Client, vi x.Seq, vs x.Key, vs x.Value, vs x.Old]
  len := by rintro ζ cs x rfl; rfl
  one := by
    rintro ζ cs x rfl u hu
    simp only [List.mem_cons, List.not_mem_nil, or_false] at hu
    rcases hu with rfl | rfl | rfl | rfl | rfl | rfl <;> rfl
  mono := by rintro ζ ζ' cs x rfl hl; exact rfl
theorem zr45 : (Tryz.prog.info? 45).map (·.zero) = some (some (.agg #[.int .i64 0, .int .i64 0, .int .i64 0, .string ⟨#[]⟩, .string ⟨#[]⟩, .string ⟨#[]⟩])) := by kernel_rfl
theorem sz5 : (Tryz.prog.info? 5).map (·.size) = some 1 := by kernel_rfl
theorem pl45 {fs : Array Field} (h : Tryz.prog.underlying 45 = some (.struct fs)) (w : World) : (fs.mapM fun f => do pure (f.offset, ← sizeOf f.type) : Sem (Array (Nat × Nat))).run Tryz.prog w = .ok #[(0, 1), (1, 1), (2, 1), (3, 1), (4, 1), (5, 1)] w := by
  rw [Tryz.underlying45] at h
  cases h
  kernel_rfl
theorem sz45 : (Tryz.prog.info? 45).map (·.size) = some 6 := by kernel_rfl
theorem sz43 : (Tryz.prog.info? 43).map (·.size) = some 1 := by kernel_rfl
theorem sz9 : (Tryz.prog.info? 9).map (·.size) = some 1 := by kernel_rfl
def go_law06_Say_Cmd.j1 (p0 : law06Say) (s11 : Str) (s21 : Str) : Option apiCmd :=
  if ((p0.Op % 4).toNat : Int) = 3 then ((cutI [118] 0 ((p0.Old % 2).toNat : Int)).bind fun s26 => (cutI [48, 49, 50, 51, 52, 53, 54, 55, 56, 57] ((p0.Old % 10).toNat : Int) (((p0.Old % 10) + 1).toNat : Int)).bind fun s27 => (catI s26 s27).bind fun s28 => some (⟨((p0.Op % 4).toNat : Int), ((p0.Client % 4).toNat : Int), ((p0.Seq % 40).toNat : Int), s11, s21, s28⟩ : apiCmd)) else (some (⟨((p0.Op % 4).toNat : Int), ((p0.Client % 4).toNat : Int), ((p0.Seq % 40).toNat : Int), s11, s21, []⟩ : apiCmd))
def go_law06_Say_Cmd (p0 : law06Say) : Option apiCmd :=
  (cutI [97, 98, 99, 100, 101, 102, 103, 104] ((p0.Key % 8).toNat : Int) (((p0.Key % 8) + 1).toNat : Int)).bind fun s10 => (catI [107] s10).bind fun s11 => (cutI [118] 0 ((p0.Value % 2).toNat : Int)).bind fun s12 => (cutI [48, 49, 50, 51, 52, 53, 54, 55, 56, 57] ((p0.Value % 10).toNat : Int) (((p0.Value % 10) + 1).toNat : Int)).bind fun s13 => (catI s12 s13).bind fun s14 => if ((p0.Op % 4).toNat : Int) = 0 then (some (⟨0, 0, 0, [], [], []⟩ : apiCmd)) else (if ((p0.Op % 4).toNat : Int) = 2 then (go_law06_Say_Cmd.j1 p0 s11 []) else (go_law06_Say_Cmd.j1 p0 s11 s14))
set_option maxRecDepth 100000 in
set_option maxHeartbeats 4000000 in
theorem go_law06_Say_Cmd.walk {w0 w : World} {X : List Res} {z0 : Zp} {p0 : law06Say} {r : apiCmd} (hst : Ht w0 (frz z0 :: X) w) (hf : go_law06_Say_Cmd p0 = some r) :
    Calls Tryz.prog 17 #[.agg #[vu8 p0.Op, vu8 p0.Client, vu8 p0.Seq, vu8 p0.Key, vu8 p0.Value, vu8 p0.Old]] w fun e w' => ∃ (z' : Zp), e = .returned (.agg #[vi r.Op, vi r.Client, vi r.Seq, vs r.Key, vs r.Value, vs r.Old]) ∧ Le z0 z' ∧ Ht w0 (frz z' :: X) w' := by
  refine calls_np Tryz.func17 rfl rfl ?_
  have hle0 := Le.refl z0
  unfold go_law06_Say_Cmd at hf
  refine Run.seq ?_
  refine Run.region ?_
  refine Ops.boxF [vu8 p0.Op, vu8 p0.Client, vu8 p0.Seq, vu8 p0.Key, vu8 p0.Value, vu8 p0.Old] hst rfl rfl rfl (fun g7 w7 hst7 => ?_)
  refine Ops.allocF [vi 0, vi 0, vi 0, vs [], vs [], vs []] hst7 zr45 rfl rfl (fun g8 w8 hst8 => ?_)
  refine Ops.nil ?_
  refine Run.seq ?_
  refine Run.drawH [([], fun w => ∃ ζ Y, Le z0 ζ ∧ Ht w0 (frz ζ :: (blk g8 [vi 0, vi 0, vi 0, vs [], vs [], vs []] 45) :: (blk g7 [vu8 p0.Op, vu8 p0.Client, vu8 p0.Seq, vu8 p0.Key, vu8 p0.Value, vu8 p0.Old] 54) :: Y) w)] (by kernel_rfl) hst8 (fun w9 hst9 => ?_)
  have hS0 := (⟨_, _, (Le.refl _), (St.up (St.up (St.up hst9 2 rfl) 2 rfl) 2 rfl)⟩ : (fun w => ∃ ζ Y, Le z0 ζ ∧ Ht w0 (frz ζ :: (blk g8 [vi 0, vi 0, vi 0, vs [], vs [], vs []] 45) :: (blk g7 [vu8 p0.Op, vu8 p0.Client, vu8 p0.Seq, vu8 p0.Key, vu8 p0.Value, vu8 p0.Old] 54) :: Y) w) _)
  refine Any.takeE 0 rfl rfl rfl rfl (by kernel_rfl) (fun _ _ _ _ _ h => h) ((Ex.fieldAddr rfl Tryz.underlying54 rfl sz5).s) ?_
  refine Any.take 0 1 rfl rfl rfl rfl rfl (by kernel_rfl) (fun _ _ _ _ _ h => h) (ExS.load rfl Tryz.underlying5 rfl (fun w hS => by obtain ⟨_, _, _, hs⟩ := hS; exact hs.cell (i := 2) rfl rfl)) hS0 ?_
  refine Any.takeE 2 rfl rfl rfl rfl (by kernel_rfl) (fun _ _ _ _ _ h => h) ((Ex.rem8 (a := p0.Op) (b := 4) rfl rfl (by decide)).s) ?_
  refine Any.takeE 3 rfl rfl rfl rfl (by kernel_rfl) (fun _ _ _ _ _ h => h) ((Ex.cu8 rfl Tryz.underlying5 Tryz.underlying43).s) ?_
  refine Any.takeE 4 rfl rfl rfl rfl (by kernel_rfl) (fun _ _ _ _ _ h => h) ((Ex.fieldAddr rfl Tryz.underlying54 rfl sz5).s) ?_
  refine Any.take 0 5 rfl rfl rfl rfl rfl (by kernel_rfl) (fun _ _ _ _ _ h => h) (ExS.load rfl Tryz.underlying5 rfl (fun w hS => by obtain ⟨_, _, _, hs⟩ := hS; exact hs.cell (i := 2) rfl rfl)) hS0 ?_
  refine Any.takeE 6 rfl rfl rfl rfl (by kernel_rfl) (fun _ _ _ _ _ h => h) ((Ex.rem8 (a := p0.Client) (b := 4) rfl rfl (by decide)).s) ?_
  refine Any.takeE 7 rfl rfl rfl rfl (by kernel_rfl) (fun _ _ _ _ _ h => h) ((Ex.cu8 rfl Tryz.underlying5 Tryz.underlying3).s) ?_
  refine Any.takeE 8 rfl rfl rfl rfl (by kernel_rfl) (fun _ _ _ _ _ h => h) ((Ex.fieldAddr rfl Tryz.underlying54 rfl sz5).s) ?_
  refine Any.take 0 9 rfl rfl rfl rfl rfl (by kernel_rfl) (fun _ _ _ _ _ h => h) (ExS.load rfl Tryz.underlying5 rfl (fun w hS => by obtain ⟨_, _, _, hs⟩ := hS; exact hs.cell (i := 2) rfl rfl)) hS0 ?_
  refine Any.takeE 10 rfl rfl rfl rfl (by kernel_rfl) (fun _ _ _ _ _ h => h) ((Ex.rem8 (a := p0.Seq) (b := 40) rfl rfl (by decide)).s) ?_
  refine Any.takeE 11 rfl rfl rfl rfl (by kernel_rfl) (fun _ _ _ _ _ h => h) ((Ex.cu8 rfl Tryz.underlying5 Tryz.underlying3).s) ?_
  refine Any.takeE 12 rfl rfl rfl rfl (by kernel_rfl) (fun _ _ _ _ _ h => h) ((Ex.fieldAddr rfl Tryz.underlying54 rfl sz5).s) ?_
  refine Any.take 0 13 rfl rfl rfl rfl rfl (by kernel_rfl) (fun _ _ _ _ _ h => h) (ExS.load rfl Tryz.underlying5 rfl (fun w hS => by obtain ⟨_, _, _, hs⟩ := hS; exact hs.cell (i := 2) rfl rfl)) hS0 ?_
  refine Any.takeE 14 rfl rfl rfl rfl (by kernel_rfl) (fun _ _ _ _ _ h => h) ((Ex.rem8 (a := p0.Key) (b := 8) rfl rfl (by decide)).s) ?_
  refine Any.takeE 15 rfl rfl rfl rfl (by kernel_rfl) (fun _ _ _ _ _ h => h) ((Ex.fieldAddr rfl Tryz.underlying54 rfl sz5).s) ?_
  refine Any.take 0 16 rfl rfl rfl rfl rfl (by kernel_rfl) (fun _ _ _ _ _ h => h) (ExS.load rfl Tryz.underlying5 rfl (fun w hS => by obtain ⟨_, _, _, hs⟩ := hS; exact hs.cell (i := 2) rfl rfl)) hS0 ?_
  refine Any.takeE 17 rfl rfl rfl rfl (by kernel_rfl) (fun _ _ _ _ _ h => h) ((Ex.rem8 (a := p0.Key) (b := 8) rfl rfl (by decide)).s) ?_
  refine Any.takeE 18 rfl rfl rfl rfl (by kernel_rfl) (fun _ _ _ _ _ h => h) ((Ex.add8 (a := (p0.Key % 8)) (b := 1) rfl rfl).s) ?_
  obtain ⟨s10, hy10, hf⟩ := bnd hf
  refine Any.takeE 19 rfl rfl rfl rfl (by kernel_rfl) (fun _ _ _ _ _ h => h) ((Ex.cutT (s := [97, 98, 99, 100, 101, 102, 103, 104]) hy10 rfl Tryz.underlying9 rfl rfl).s) ?_
  obtain ⟨s11, hy11, hf⟩ := bnd hf
  refine Any.takeE 20 rfl rfl rfl rfl (by kernel_rfl) (fun _ _ _ _ _ h => h) ((Ex.addT (s := [107]) hy11 rfl rfl).s) ?_
  refine Any.takeE 21 rfl rfl rfl rfl (by kernel_rfl) (fun _ _ _ _ _ h => h) ((Ex.fieldAddr rfl Tryz.underlying54 rfl sz5).s) ?_
  refine Any.take 0 22 rfl rfl rfl rfl rfl (by kernel_rfl) (fun _ _ _ _ _ h => h) (ExS.load rfl Tryz.underlying5 rfl (fun w hS => by obtain ⟨_, _, _, hs⟩ := hS; exact hs.cell (i := 2) rfl rfl)) hS0 ?_
  refine Any.takeE 23 rfl rfl rfl rfl (by kernel_rfl) (fun _ _ _ _ _ h => h) ((Ex.rem8 (a := p0.Value) (b := 2) rfl rfl (by decide)).s) ?_
  obtain ⟨s12, hy12, hf⟩ := bnd hf
  refine Any.takeE 24 rfl rfl rfl rfl (by kernel_rfl) (fun _ _ _ _ _ h => h) ((Ex.cutTh (lo := none) (hi := some _) hy12 rfl Tryz.underlying9 rfl ⟨_, rfl⟩).s) ?_
  refine Any.takeE 25 rfl rfl rfl rfl (by kernel_rfl) (fun _ _ _ _ _ h => h) ((Ex.fieldAddr rfl Tryz.underlying54 rfl sz5).s) ?_
  refine Any.take 0 26 rfl rfl rfl rfl rfl (by kernel_rfl) (fun _ _ _ _ _ h => h) (ExS.load rfl Tryz.underlying5 rfl (fun w hS => by obtain ⟨_, _, _, hs⟩ := hS; exact hs.cell (i := 2) rfl rfl)) hS0 ?_
  refine Any.takeE 27 rfl rfl rfl rfl (by kernel_rfl) (fun _ _ _ _ _ h => h) ((Ex.rem8 (a := p0.Value) (b := 10) rfl rfl (by decide)).s) ?_
  refine Any.takeE 28 rfl rfl rfl rfl (by kernel_rfl) (fun _ _ _ _ _ h => h) ((Ex.fieldAddr rfl Tryz.underlying54 rfl sz5).s) ?_
  refine Any.take 0 29 rfl rfl rfl rfl rfl (by kernel_rfl) (fun _ _ _ _ _ h => h) (ExS.load rfl Tryz.underlying5 rfl (fun w hS => by obtain ⟨_, _, _, hs⟩ := hS; exact hs.cell (i := 2) rfl rfl)) hS0 ?_
  refine Any.takeE 30 rfl rfl rfl rfl (by kernel_rfl) (fun _ _ _ _ _ h => h) ((Ex.rem8 (a := p0.Value) (b := 10) rfl rfl (by decide)).s) ?_
  refine Any.takeE 31 rfl rfl rfl rfl (by kernel_rfl) (fun _ _ _ _ _ h => h) ((Ex.add8 (a := (p0.Value % 10)) (b := 1) rfl rfl).s) ?_
  obtain ⟨s13, hy13, hf⟩ := bnd hf
  refine Any.takeE 32 rfl rfl rfl rfl (by kernel_rfl) (fun _ _ _ _ _ h => h) ((Ex.cutT (s := [48, 49, 50, 51, 52, 53, 54, 55, 56, 57]) hy13 rfl Tryz.underlying9 rfl rfl).s) ?_
  obtain ⟨s14, hy14, hf⟩ := bnd hf
  refine Any.takeE 33 rfl rfl rfl rfl (by kernel_rfl) (fun _ _ _ _ _ h => h) ((Ex.addT hy14 rfl rfl).s) ?_
  refine Any.takeE 34 rfl rfl rfl rfl (by kernel_rfl) (fun _ _ _ _ _ h => h) ((Ex.build [vi ((p0.Op % 4).toNat : Int), vi ((p0.Client % 4).toNat : Int), vi ((p0.Seq % 40).toNat : Int), vs s11, vs s14, vs []] rfl Tryz.underlying45 zr45 (pl45 Tryz.underlying45) (by kernel_rfl)).s) ?_
  refine Any.one 35 (by kernel_rfl) rfl rfl (One.of_ops rfl ?_)
  refine Ops.allocF [vi 0, vi 0, vi 0, vs [], vs [], vs []] hst9 zr45 rfl rfl (fun g15 w15 hst15 => Ops.stop ?_)
  have hS0 := (⟨_, _, (Le.refl _), (St.up (St.up (St.up hst15 3 rfl) 3 rfl) 2 rfl)⟩ : (fun w => ∃ ζ Y, Le z0 ζ ∧ Ht w0 (frz ζ :: (blk g8 [vi 0, vi 0, vi 0, vs [], vs [], vs []] 45) :: (blk g7 [vu8 p0.Op, vu8 p0.Client, vu8 p0.Seq, vu8 p0.Key, vu8 p0.Value, vu8 p0.Old] 54) :: Y) w) _)
  refine ⟨⟨.inr (fun _ => hS0), trivial⟩, ?_⟩
  refine Any.one 36 (by kernel_rfl) rfl rfl (One.of_ops rfl ?_)
  refine Ops.store 1 [vi ((p0.Op % 4).toNat : Int), vi ((p0.Client % 4).toNat : Int), vi ((p0.Seq % 40).toNat : Int), vs s11, vs s14, vs []] hst15 rfl rfl rfl rfl sz45 rfl (by simp [Value.oneCell']) (by simp) (fun w16 hst16 => Ops.stop ?_)
  have hS0 := (⟨_, _, (Le.refl _), (St.up (St.up (St.up hst16 3 rfl) 3 rfl) 2 rfl)⟩ : (fun w => ∃ ζ Y, Le z0 ζ ∧ Ht w0 (frz ζ :: (blk g8 [vi 0, vi 0, vi 0, vs [], vs [], vs []] 45) :: (blk g7 [vu8 p0.Op, vu8 p0.Client, vu8 p0.Seq, vu8 p0.Key, vu8 p0.Value, vu8 p0.Old] 54) :: Y) w) _)
  refine ⟨⟨.inr (fun _ => hS0), trivial⟩, ?_⟩
  refine Any.done (by kernel_rfl) ?_
  refine Run.seq ?_
  refine Run.seq ?_
  refine Run.region ?_
  refine Ops.ex (Ex.fieldAddr rfl Tryz.underlying45 rfl sz43) rfl rfl rfl ?_
  refine Ops.load rfl Tryz.underlying43 rfl (hst16.cell (i := 1) rfl rfl) rfl ?_
  refine Ops.ex (Ex.eqlI rfl rfl) rfl rfl rfl ?_
  refine Ops.nil ?_
  refine Run.cond rfl (fun hc => ?_) (fun hc => ?_)
  · replace hf := ifT (dec_T hc) hf
    refine Run.seq ?_
    refine Run.region ?_
    refine Ops.ex (Ex.build [vi 0, vi 0, vi 0, vs [], vs [], vs []] rfl Tryz.underlying45 zr45 (pl45 Tryz.underlying45) (by kernel_rfl)) rfl rfl rfl ?_
    refine Ops.store 2 [vi 0, vi 0, vi 0, vs [], vs [], vs []] hst16 rfl rfl rfl rfl sz45 rfl (by simp [Value.oneCell']) (by simp) (fun w17 hst17 => ?_)
    refine Ops.nil ?_
    obtain rfl := Option.some.inj hf
    exact Run.retV [.agg #[vi 0, vi 0, vi 0, vs [], vs [], vs []]] rfl ⟨⟨_, rfl, run_loadN _ Tryz.underlying45 rfl sz45 rfl (hst17.cells (i := 2) rfl 0 6)⟩, trivial⟩ ⟨z0, rfl, hle0, (St.forget (St.forget (St.forget hst17 3) 2) 1)⟩
  · replace hf := ifF (dec_F hc) hf
    refine Run.skip ?_
    refine Run.seq ?_
    refine Run.seq ?_
    refine Run.region ?_
    refine Ops.ex (Ex.fieldAddr rfl Tryz.underlying45 rfl sz43) rfl rfl rfl ?_
    refine Ops.load rfl Tryz.underlying43 rfl (hst16.cell (i := 1) rfl rfl) rfl ?_
    refine Ops.ex (Ex.eqlI rfl rfl) rfl rfl rfl ?_
    refine Ops.nil ?_
    apply Run.jn (fun e' w' => ∃ (s21 : Str) (z20 : Zp), go_law06_Say_Cmd.j1 p0 s11 s21 = some r ∧ e' = [(1, .pointer (some ⟨g7, 0, none⟩)), (2, .pointer (some ⟨g8, 0, none⟩)), (3, .pointer (some ⟨g15, 0, none⟩))] ∧ Le z0 z20 ∧ Ht w0 (frz z20 :: (blk g15 [vi ((p0.Op % 4).toNat : Int), vi ((p0.Client % 4).toNat : Int), vi ((p0.Seq % 40).toNat : Int), vs s11, vs s21, vs []] 45) :: (blk g8 [vi 0, vi 0, vi 0, vs [], vs [], vs []] 45) :: (blk g7 [vu8 p0.Op, vu8 p0.Client, vu8 p0.Seq, vu8 p0.Key, vu8 p0.Value, vu8 p0.Old] 54) :: X) w')
    · intro hj18
      refine Run.cond rfl (fun hc => ?_) (fun hc => ?_)
      · replace hf := ifT (dec_T hc) hf
        refine Run.region ?_
        refine Ops.ex (Ex.fieldAddr rfl Tryz.underlying45 rfl sz9) rfl rfl rfl ?_
        refine Ops.store 1 [vs []] hst16 rfl rfl rfl rfl sz9 rfl (by simp [Value.oneCell']) (by simp) (fun w22 hst22 => ?_)
        refine Ops.nil ?_
        exact Run.sub (by exact subB_spec ⟨rfl, rfl, rfl, trivial⟩) (hj18 _ _ ⟨[], z0, hf, rfl, hle0, hst22⟩)
      · replace hf := ifF (dec_F hc) hf
        refine Run.skip ?_
        exact Run.sub (by exact subB_spec ⟨rfl, rfl, rfl, trivial⟩) (hj18 _ _ ⟨s14, z0, hf, rfl, hle0, hst16⟩)
    · rintro e' w23 ⟨s21, z20, hf, rfl, hz23, hst23⟩
      unfold go_law06_Say_Cmd.j1 at hf
      refine Run.seq ?_
      refine Run.seq ?_
      refine Run.region ?_
      refine Ops.ex (Ex.fieldAddr rfl Tryz.underlying45 rfl sz43) rfl rfl rfl ?_
      refine Ops.load rfl Tryz.underlying43 rfl (hst23.cell (i := 1) rfl rfl) rfl ?_
      refine Ops.ex (Ex.eqlI rfl rfl) rfl rfl rfl ?_
      refine Ops.nil ?_
      refine Run.cond rfl (fun hc => ?_) (fun hc => ?_)
      · replace hf := ifT (dec_T hc) hf
        have hm25 := Le.refl z20
        refine Run.drawH [([], fun w => ∃ ζ Y, Le z20 ζ ∧ Ht w0 (frz ζ :: (blk g8 [vi 0, vi 0, vi 0, vs [], vs [], vs []] 45) :: (blk g7 [vu8 p0.Op, vu8 p0.Client, vu8 p0.Seq, vu8 p0.Key, vu8 p0.Value, vu8 p0.Old] 54) :: Y) w), ([14], fun w => ∃ ζ Y, Le z20 ζ ∧ Ht w0 (frz ζ :: (blk g15 [vi ((p0.Op % 4).toNat : Int), vi ((p0.Client % 4).toNat : Int), vi ((p0.Seq % 40).toNat : Int), vs s11, vs s21, vs []] 45) :: Y) w)] (by kernel_rfl) hst23 (fun w24 hst24 => ?_)
        have hS0 := (⟨_, _, (Le.refl _), (St.up (St.up (St.up hst24 3 rfl) 3 rfl) 2 rfl)⟩ : (fun w => ∃ ζ Y, Le z20 ζ ∧ Ht w0 (frz ζ :: (blk g8 [vi 0, vi 0, vi 0, vs [], vs [], vs []] 45) :: (blk g7 [vu8 p0.Op, vu8 p0.Client, vu8 p0.Seq, vu8 p0.Key, vu8 p0.Value, vu8 p0.Old] 54) :: Y) w) _)
        have hS1 := (⟨_, _, (Le.refl _), (St.up (St.up hst24 1 rfl) 1 rfl)⟩ : (fun w => ∃ ζ Y, Le z20 ζ ∧ Ht w0 (frz ζ :: (blk g15 [vi ((p0.Op % 4).toNat : Int), vi ((p0.Client % 4).toNat : Int), vi ((p0.Seq % 40).toNat : Int), vs s11, vs s21, vs []] 45) :: Y) w) _)
        refine Any.takeE 0 rfl rfl rfl rfl (by kernel_rfl) (fun _ _ _ _ _ h => h) ((Ex.fieldAddr rfl Tryz.underlying54 rfl sz5).s) ?_
        refine Any.take 0 1 rfl rfl rfl rfl rfl (by kernel_rfl) (fun _ _ _ _ _ h => h) (ExS.load rfl Tryz.underlying5 rfl (fun w hS => by obtain ⟨_, _, _, hs⟩ := hS; exact hs.cell (i := 2) rfl rfl)) hS0 ?_
        refine Any.takeE 2 rfl rfl rfl rfl (by kernel_rfl) (fun _ _ _ _ _ h => h) ((Ex.rem8 (a := p0.Old) (b := 2) rfl rfl (by decide)).s) ?_
        obtain ⟨s26, hy26, hf⟩ := bnd hf
        refine Any.takeE 3 rfl rfl rfl rfl (by kernel_rfl) (fun _ _ _ _ _ h => h) ((Ex.cutTh (lo := none) (hi := some _) hy26 rfl Tryz.underlying9 rfl ⟨_, rfl⟩).s) ?_
        refine Any.takeE 4 rfl rfl rfl rfl (by kernel_rfl) (fun _ _ _ _ _ h => h) ((Ex.fieldAddr rfl Tryz.underlying54 rfl sz5).s) ?_
        refine Any.take 0 5 rfl rfl rfl rfl rfl (by kernel_rfl) (fun _ _ _ _ _ h => h) (ExS.load rfl Tryz.underlying5 rfl (fun w hS => by obtain ⟨_, _, _, hs⟩ := hS; exact hs.cell (i := 2) rfl rfl)) hS0 ?_
        refine Any.takeE 6 rfl rfl rfl rfl (by kernel_rfl) (fun _ _ _ _ _ h => h) ((Ex.rem8 (a := p0.Old) (b := 10) rfl rfl (by decide)).s) ?_
        refine Any.takeE 7 rfl rfl rfl rfl (by kernel_rfl) (fun _ _ _ _ _ h => h) ((Ex.fieldAddr rfl Tryz.underlying54 rfl sz5).s) ?_
        refine Any.take 0 8 rfl rfl rfl rfl rfl (by kernel_rfl) (fun _ _ _ _ _ h => h) (ExS.load rfl Tryz.underlying5 rfl (fun w hS => by obtain ⟨_, _, _, hs⟩ := hS; exact hs.cell (i := 2) rfl rfl)) hS0 ?_
        refine Any.takeE 9 rfl rfl rfl rfl (by kernel_rfl) (fun _ _ _ _ _ h => h) ((Ex.rem8 (a := p0.Old) (b := 10) rfl rfl (by decide)).s) ?_
        refine Any.takeE 10 rfl rfl rfl rfl (by kernel_rfl) (fun _ _ _ _ _ h => h) ((Ex.add8 (a := (p0.Old % 10)) (b := 1) rfl rfl).s) ?_
        obtain ⟨s27, hy27, hf⟩ := bnd hf
        refine Any.takeE 11 rfl rfl rfl rfl (by kernel_rfl) (fun _ _ _ _ _ h => h) ((Ex.cutT (s := [48, 49, 50, 51, 52, 53, 54, 55, 56, 57]) hy27 rfl Tryz.underlying9 rfl rfl).s) ?_
        obtain ⟨s28, hy28, hf⟩ := bnd hf
        refine Any.takeE 12 rfl rfl rfl rfl (by kernel_rfl) (fun _ _ _ _ _ h => h) ((Ex.addT hy28 rfl rfl).s) ?_
        refine Any.takeE 13 rfl rfl rfl rfl (by kernel_rfl) (fun _ _ _ _ _ h => h) ((Ex.fieldAddr rfl Tryz.underlying45 rfl sz9).s) ?_
        refine Any.one 14 (by kernel_rfl) rfl rfl (One.of_ops rfl ?_)
        refine Ops.store 1 [vs s28] hst24 rfl rfl rfl rfl sz9 rfl (by simp [Value.oneCell']) (by simp) (fun w29 hst29 => Ops.stop ?_)
        have hS0 := (⟨_, _, (Le.refl _), (St.up (St.up (St.up hst29 3 rfl) 3 rfl) 2 rfl)⟩ : (fun w => ∃ ζ Y, Le z20 ζ ∧ Ht w0 (frz ζ :: (blk g8 [vi 0, vi 0, vi 0, vs [], vs [], vs []] 45) :: (blk g7 [vu8 p0.Op, vu8 p0.Client, vu8 p0.Seq, vu8 p0.Key, vu8 p0.Value, vu8 p0.Old] 54) :: Y) w) _)
        refine ⟨⟨.inr (fun _ => hS0), .inl (by decide), trivial⟩, ?_⟩
        refine Any.done (by kernel_rfl) ?_
        refine Run.seq ?_
        refine Run.region ?_
        refine Ops.loadAgg _ rfl Tryz.underlying45 rfl sz45 rfl (hst29.cells (i := 1) rfl 0 6) rfl ?_
        refine Ops.store 2 [vi ((p0.Op % 4).toNat : Int), vi ((p0.Client % 4).toNat : Int), vi ((p0.Seq % 40).toNat : Int), vs s11, vs s21, vs s28] hst29 rfl rfl rfl rfl sz45 rfl (by simp [Value.oneCell']) (by simp) (fun w30 hst30 => ?_)
        refine Ops.nil ?_
        obtain rfl := Option.some.inj hf
        exact Run.retV [.agg #[vi ((p0.Op % 4).toNat : Int), vi ((p0.Client % 4).toNat : Int), vi ((p0.Seq % 40).toNat : Int), vs s11, vs s21, vs s28]] rfl ⟨⟨_, rfl, run_loadN _ Tryz.underlying45 rfl sz45 rfl (hst30.cells (i := 2) rfl 0 6)⟩, trivial⟩ ⟨z20, rfl, hz23, (St.forget (St.forget (St.forget hst30 3) 2) 1)⟩
      · replace hf := ifF (dec_F hc) hf
        refine Run.skip ?_
        refine Run.seq ?_
        refine Run.region ?_
        refine Ops.loadAgg _ rfl Tryz.underlying45 rfl sz45 rfl (hst23.cells (i := 1) rfl 0 6) rfl ?_
        refine Ops.store 2 [vi ((p0.Op % 4).toNat : Int), vi ((p0.Client % 4).toNat : Int), vi ((p0.Seq % 40).toNat : Int), vs s11, vs s21, vs []] hst23 rfl rfl rfl rfl sz45 rfl (by simp [Value.oneCell']) (by simp) (fun w31 hst31 => ?_)
        refine Ops.nil ?_
        obtain rfl := Option.some.inj hf
        exact Run.retV [.agg #[vi ((p0.Op % 4).toNat : Int), vi ((p0.Client % 4).toNat : Int), vi ((p0.Seq % 40).toNat : Int), vs s11, vs s21, vs []]] rfl ⟨⟨_, rfl, run_loadN _ Tryz.underlying45 rfl sz45 rfl (hst31.cells (i := 2) rfl 0 6)⟩, trivial⟩ ⟨z20, rfl, hz23, (St.forget (St.forget (St.forget hst31 3) 2) 1)⟩
end Go.Proofs.YtiekoeapmhhjbaaGreatDoor.C1
