/- Plan: Of, Pair, Unneeded. -/
import Derived.Test.YtbinmebiknjncaaP1
namespace Go.Proofs.Ytbinmebiknjncaa.P2
open Go Go.RowKit Go.Proofs.Ytbinmebiknjncaa.Sx Go.Proofs.Ytbinmebiknjncaa.P1
set_option linter.unusedVariables false
set_option linter.unusedSimpArgs false
structure planPlan where
  Full : Option apiRef
  Deltas : List apiRef
  Parts : List apiRef
  deriving DecidableEq
def tplanPlan : Ty planPlan where
  sz := 3
  R := fun ζ cs x => ∃ A0 A1 c1 A2 c2, cs = [.pointer A0, .slice A1 x.Deltas.length c1, .slice A2 x.Parts.length c2] ∧ Pp tapiRef ζ A0 x.Full ∧ Sl tapiRef ζ A1 c1 x.Deltas ∧ Sl tapiRef ζ A2 c2 x.Parts
  len := by rintro ζ cs x ⟨A0, A1, c1, A2, c2, rfl, f0, f1, f2⟩; rfl
  one := by
    rintro ζ cs x ⟨A0, A1, c1, A2, c2, rfl, f0, f1, f2⟩ u hu
    simp only [List.mem_cons, List.not_mem_nil, or_false] at hu
    rcases hu with rfl | rfl | rfl <;> rfl
  mono := by rintro ζ ζ' cs x ⟨A0, A1, c1, A2, c2, rfl, f0, f1, f2⟩ hl; exact ⟨A0, A1, c1, A2, c2, rfl, f0.mono hl, f1.mono hl, f2.mono hl⟩
structure law11Ref where
  Kind : UInt8
  From : UInt8
  Long : UInt8
  deriving DecidableEq
def tlaw11Ref : Ty law11Ref where
  sz := 3
  R := fun ζ cs x => cs = [vu8 x.Kind, vu8 x.From, vu8 x.Long]
  len := by rintro ζ cs x rfl; rfl
  one := by
    rintro ζ cs x rfl u hu
    simp only [List.mem_cons, List.not_mem_nil, or_false] at hu
    rcases hu with rfl | rfl | rfl <;> rfl
  mono := by rintro ζ ζ' cs x rfl hl; exact rfl
theorem zr31 : (Try.prog.info? 31).map (·.zero) = some (some (.agg #[.pointer none, .slice none 0 0, .slice none 0 0])) := by kernel_rfl
theorem pl31 {fs : Array Field} (h : Try.prog.underlying 31 = some (.struct fs)) (w : World) : (fs.mapM fun f => do pure (f.offset, ← sizeOf f.type) : Sem (Array (Nat × Nat))).run Try.prog w = .ok #[(0, 1), (1, 1), (2, 1)] w := by
  rw [Try.underlying31] at h
  cases h
  kernel_rfl
theorem sz31 : (Try.prog.info? 31).map (·.size) = some 3 := by kernel_rfl
theorem sz27 : (Try.prog.info? 27).map (·.size) = some 2 := by kernel_rfl
theorem sz29 : (Try.prog.info? 29).map (·.size) = some 1 := by kernel_rfl
set_option maxRecDepth 100000 in
theorem eqv37 (d : Nat) (x y : apiRef) : EqV Try.prog (d + 2) 37 (.agg #[vs x.Name, vi x.Kind, vi x.From, vi x.To]) (.agg #[vs y.Name, vi y.Kind, vi y.From, vi y.To]) (decide (x = y)) := by
  refine EqV.re (EqV.agg Try.underlying37 (by kernel_rfl) ⟨_, _, _, _, by decide, fun w => rfl, fun w => rfl, EqV.str Try.underlying9, ⟨_, _, _, _, by decide, fun w => rfl, fun w => rfl, EqV.int Try.underlying35, ⟨_, _, _, _, by decide, fun w => rfl, fun w => rfl, EqV.int Try.underlying3, ⟨_, _, _, _, by decide, fun w => rfl, fun w => rfl, EqV.int Try.underlying3, rfl, rfl⟩, rfl⟩, rfl⟩, rfl⟩) ?_
  obtain ⟨x0, x1, x2, x3⟩ := x
  obtain ⟨y0, y1, y2, y3⟩ := y
  rw [Bool.eq_iff_iff]
  simp [apiRef.mk.injEq]
theorem pl37 {fs : Array Field} (h : Try.prog.underlying 37 = some (.struct fs)) (w : World) : (fs.mapM fun f => do pure (f.offset, ← sizeOf f.type) : Sem (Array (Nat × Nat))).run Try.prog w = .ok #[(0, 1), (1, 1), (2, 1), (3, 1)] w := by
  rw [Try.underlying37] at h
  cases h
  kernel_rfl
theorem sz9 : (Try.prog.info? 9).map (·.size) = some 1 := by kernel_rfl
theorem zr9 : (Try.prog.info? 9).map (·.zero) = some (some (.string ⟨#[]⟩)) := by kernel_rfl
theorem inf9 : (Try.prog.info? 9).map (fun i => (i.zero, i.size, i.bytes)) = some (some (.string ⟨#[]⟩), 1, 16) := by kernel_rfl
theorem zr27 : (Try.prog.info? 27).map (·.zero) = some (some (.agg #[.slice none 0 0, .int .i64 0])) := by kernel_rfl
theorem pl27 {fs : Array Field} (h : Try.prog.underlying 27 = some (.struct fs)) (w : World) : (fs.mapM fun f => do pure (f.offset, ← sizeOf f.type) : Sem (Array (Nat × Nat))).run Try.prog w = .ok #[(0, 1), (1, 1)] w := by
  rw [Try.underlying27] at h
  cases h
  kernel_rfl
theorem sz57 : (Try.prog.info? 57).map (·.size) = some 3 := by kernel_rfl
theorem zr57 : (Try.prog.info? 57).map (·.zero) = some (some (.agg #[.int .u8 0, .int .u8 0, .int .u8 0])) := by kernel_rfl
theorem sz5 : (Try.prog.info? 5).map (·.size) = some 1 := by kernel_rfl
theorem zr5 : (Try.prog.info? 5).map (·.zero) = some (some (.int .u8 0)) := by kernel_rfl
def go_plan_Of.b3 (p2 : Int) (x854 : Int) (l856 : List apiRef) (nxb672 : (Int × Bool × List apiRef) → Option (planPlan × Int)) (i862 : Nat) (a862 : apiRef) : Unit → (Unit → Option (planPlan × Int)) → Option (planPlan × Int) :=
  fun _ nxb862 => if a862.From = x854 then (if x854 < a862.To then (if a862.To ≤ p2 then ((apB 40 l856 [a862]).bind fun l904 => nxb672 (a862.To, true, l904)) else (nxb862 ())) else (nxb862 ())) else (nxb862 ())
def go_plan_Of.j1 (p2 : Int) (x956 : Int) (l957 : List apiRef) (a908 : apiRef) (nxb908 : (Int × List apiRef) → Option (planPlan × Int)) (x971 : Int) : Option (planPlan × Int) :=
  if x956 < p2 then (if a908.From ≤ x956 then (if x956 < x971 then ((apB 40 l957 [a908]).bind fun l974 => nxb908 (x971, l974)) else (nxb908 (x956, l957))) else (nxb908 (x956, l957))) else (nxb908 (x956, l957))
def go_plan_Of.b4 (p1 : Int) (p2 : Int) (y906 : List apiRef) (i908 : Nat) (a908 : apiRef) : (Int × List apiRef) → (Int × List apiRef → Option (planPlan × Int)) → Option (planPlan × Int) :=
  fun (x956, l957) nxb908 => if (i908 : Int) = wr ((y906.length : Int) - 1) then (go_plan_Of.j1 p2 x956 l957 a908 nxb908 (max a908.To p1)) else (go_plan_Of.j1 p2 x956 l957 a908 nxb908 a908.To)
def go_plan_Of.b2 (p0 : editsSet) (p1 : Int) (p2 : Int) (o658 : Option apiRef) : (Int × Bool × List apiRef) → (Int × Bool × List apiRef → Option (planPlan × Int)) → Option (planPlan × Int) :=
  fun (x854, b855, l856) nxb672 => if b855 then ((go_plan_kind p0 1).bind fun y860 => forL (go_plan_Of.b3 p2 x854 l856 nxb672) (fun _ => nxb672 (x854, false, l856)) 0 y860 ()) else ((go_plan_kind p0 2).bind fun y906 => forL (go_plan_Of.b4 p1 p2 y906) (fun (x956, l957) => if x956 < p2 then (some ((⟨none, [], []⟩ : planPlan), 9)) else (some ((⟨o658, l856, l957⟩ : planPlan), 0))) 0 y906 (x854, []))
def go_plan_Of.b1 (p2 : Int) (i12 : Nat) (a12 : apiRef) : (Int × Option apiRef) → (Int × Option apiRef → Option (planPlan × Int)) → Option (planPlan × Int) :=
  fun (x657, o658) nxb12 => if a12.To ≤ p2 then (nxb12 (a12.To, some a12)) else (nxb12 (x657, o658))
def go_plan_Of (p0 : editsSet) (p1 : Int) (p2 : Int) : Option (planPlan × Int) :=
  if p2 < p0.Floor then (some ((⟨none, [], []⟩ : planPlan), 9)) else (if p1 < p2 then (some ((⟨none, [], []⟩ : planPlan), 9)) else ((go_plan_kind p0 0).bind fun y10 => forL (go_plan_Of.b1 p2) (fun (x657, o658) => loopF (go_plan_Of.b2 p0 p1 p2 o658) fuel (x657, true, [])) 0 y10 (0, none)))
set_option maxRecDepth 100000 in
set_option maxHeartbeats 4000000 in
theorem go_plan_Of.walk {w0 w : World} {X : List Res} {z0 : Zp} {p0 : editsSet} {A1 : Option Addr} {c1 : Nat} {p1 : Int} {p2 : Int} {r : planPlan × Int} (hst : Ht w0 (frz z0 :: X) w) (f1 : Sl tapiRef z0 A1 c1 p0.Refs) (hf : go_plan_Of p0 p1 p2 = some r) :
    Calls Try.prog 12 #[.agg #[.slice A1 p0.Refs.length c1, vi p0.Floor], vi p1, vi p2] w fun e w' => ∃ (z' : Zp) (A9001 : Option Addr) (A9002 : Option Addr) (c9002 : Nat) (A9003 : Option Addr) (c9003 : Nat), e = .returned (.tuple #[.agg #[.pointer A9001, .slice A9002 r.1.Deltas.length c9002, .slice A9003 r.1.Parts.length c9003], vi r.2]) ∧ Le z0 z' ∧ Pp tapiRef z' A9001 r.1.Full ∧ Sl tapiRef z' A9002 c9002 r.1.Deltas ∧ Sl tapiRef z' A9003 c9003 r.1.Parts ∧ Ht w0 (frz z' :: X) w' := by
  refine calls_np Try.func12 rfl rfl ?_
  have hle0 := Le.refl z0
  unfold go_plan_Of at hf
  refine Run.seq ?_
  refine Run.region ?_
  refine Ops.boxF [.slice A1 p0.Refs.length c1, vi p0.Floor] hst rfl rfl rfl (fun g5 w5 hst5 => ?_)
  refine Ops.allocF [.pointer none, .slice none 0 0, .slice none 0 0] hst5 zr31 rfl rfl (fun g6 w6 hst6 => ?_)
  refine Ops.ex (Ex.assign rfl) rfl rfl rfl ?_
  refine Ops.nil ?_
  refine Run.seq ?_
  refine Run.seq ?_
  refine Run.region ?_
  refine Ops.ex (Ex.move rfl) rfl rfl rfl ?_
  refine Ops.ex (Ex.fieldAddr rfl Try.underlying27 rfl sz3) rfl rfl rfl ?_
  refine Ops.load rfl Try.underlying3 rfl (hst6.cell (i := 2) rfl rfl) rfl ?_
  refine Ops.ex (Ex.lss rfl rfl) rfl rfl rfl ?_
  refine Ops.ex (Ex.move rfl) rfl rfl rfl ?_
  refine Ops.case 23 rfl (fun hc => ?_) (fun hc => ?_)
  · replace hf := ifT (dec_T hc) hf
    refine Ops.off rfl rfl ?_
    refine Ops.off rfl rfl ?_
    refine Ops.off rfl rfl ?_
    refine Ops.ex (Ex.pickT rfl rfl) rfl rfl rfl ?_
    refine Ops.nil ?_
    refine Run.condT rfl rfl ?_
    refine Run.seq ?_
    refine Run.region ?_
    refine Ops.ex (Ex.build [.pointer none, .slice none 0 0, .slice none 0 0] rfl Try.underlying31 zr31 (pl31 Try.underlying31) (by kernel_rfl)) rfl rfl rfl ?_
    refine Ops.store 1 [.pointer none, .slice none 0 0, .slice none 0 0] hst6 rfl rfl rfl rfl sz31 rfl (by simp [Value.oneCell']) (by simp) (fun w7 hst7 => ?_)
    refine Ops.ex (Ex.assign rfl) rfl rfl rfl ?_
    refine Ops.nil ?_
    obtain rfl := Option.some.inj hf
    exact Run.retV [.agg #[.pointer none, .slice none 0 0, .slice none 0 0], vi 9] rfl ⟨⟨_, rfl, run_loadN _ Try.underlying31 rfl sz31 rfl (hst7.cells (i := 1) rfl 0 3)⟩, rfl, trivial⟩ ⟨z0, none, none, 0, none, 0, rfl, hle0, (Pp.nil _ _), (Sl.nil _ _), (Sl.nil _ _), (St.forget (St.forget hst7 2) 1)⟩
  · replace hf := ifF (dec_F hc) hf
    refine Ops.on rfl ?_
    refine Ops.ex (Ex.move rfl) rfl rfl rfl ?_
    refine Ops.on rfl ?_
    refine Ops.ex (Ex.move rfl) rfl rfl rfl ?_
    refine Ops.on rfl ?_
    refine Ops.ex (Ex.gtr rfl rfl) rfl rfl rfl ?_
    refine Ops.ex (Ex.pickF rfl rfl) rfl rfl rfl ?_
    refine Ops.nil ?_
    refine Run.cond rfl (fun hc => ?_) (fun hc => ?_)
    · replace hf := ifT (dec_T hc) hf
      refine Run.seq ?_
      refine Run.region ?_
      refine Ops.ex (Ex.build [.pointer none, .slice none 0 0, .slice none 0 0] rfl Try.underlying31 zr31 (pl31 Try.underlying31) (by kernel_rfl)) rfl rfl rfl ?_
      refine Ops.store 1 [.pointer none, .slice none 0 0, .slice none 0 0] hst6 rfl rfl rfl rfl sz31 rfl (by simp [Value.oneCell']) (by simp) (fun w8 hst8 => ?_)
      refine Ops.ex (Ex.assign rfl) rfl rfl rfl ?_
      refine Ops.nil ?_
      obtain rfl := Option.some.inj hf
      exact Run.retV [.agg #[.pointer none, .slice none 0 0, .slice none 0 0], vi 9] rfl ⟨⟨_, rfl, run_loadN _ Try.underlying31 rfl sz31 rfl (hst8.cells (i := 1) rfl 0 3)⟩, rfl, trivial⟩ ⟨z0, none, none, 0, none, 0, rfl, hle0, (Pp.nil _ _), (Sl.nil _ _), (Sl.nil _ _), (St.forget (St.forget hst8 2) 1)⟩
    · replace hf := ifF (dec_F hc) hf
      refine Run.skip ?_
      refine Run.seq ?_
      refine Run.region ?_
      refine Ops.allocF [.pointer none, .slice none 0 0, .slice none 0 0] hst6 zr31 rfl rfl (fun g9 w9 hst9 => ?_)
      refine Ops.nil ?_
      refine Run.seq ?_
      refine Run.region ?_
      refine Ops.ex (Ex.assign rfl) rfl rfl rfl ?_
      refine Ops.nil ?_
      refine Run.seq ?_
      refine Run.seq ?_
      refine Run.region ?_
      refine Ops.loadAgg _ rfl Try.underlying27 rfl sz27 rfl (hst9.cells (i := 3) rfl 0 2) rfl ?_
      obtain ⟨y10, hy10, hf⟩ := bnd hf
      refine Ops.call rfl rfl Try.func19 (by kernel_rfl) (by kernel_rfl) rfl (go_plan_kind.walk (p0 := p0) (p1 := 0) (hst := hst9) (f1 := f1) (hf := hy10)) ?_
      rintro _ w10 ⟨z10, A11, c11, rfl, hz10, f11, hst10⟩
      refine ⟨_, rfl, ?_⟩
      replace f1 := f1.mono hz10
      replace hle0 := hle0.trans hz10
      refine Ops.ex (Ex.len' rfl rfl rfl Try.underlying25) rfl rfl rfl ?_
      refine Ops.ex (Ex.move rfl) rfl rfl rfl ?_
      refine Ops.nil ?_
      refine Run.block ?_
      have hc12 := f11.cap
      have hm13 := Le.refl z10
      refine Run.sub (e' := [(1, vi p1), (2, vi p2), (3, .pointer (some ⟨g5, 0, none⟩)), (6, .pointer (some ⟨g6, 0, none⟩)), (8, .pointer (some ⟨g9, 0, none⟩)), (9, vi 0), (30, .slice A11 y10.length c11), (31, vi (y10.length : Int)), (32, vi ((0 : Nat) : Int))]) (subB_spec ⟨rfl, rfl, rfl, rfl, rfl, rfl, rfl, rfl, rfl, trivial⟩) ?_
      refine Run.loop (fun mb12 => (fun e' w' => ∃ (i12 : Nat) (x657 : Int) (o658 : Option apiRef) (A658 : Option Addr) (z656 : Zp), mb12 = y10.length - i12 ∧ i12 ≤ y10.length ∧ forL (go_plan_Of.b1 p2) (fun (x657, o658) => loopF (go_plan_Of.b2 p0 p1 p2 o658) fuel (x657, true, [])) i12 (y10.drop i12) (x657, o658) = some r ∧ e' = [(1, vi p1), (2, vi p2), (3, .pointer (some ⟨g5, 0, none⟩)), (6, .pointer (some ⟨g6, 0, none⟩)), (8, .pointer (some ⟨g9, 0, none⟩)), (9, vi x657), (30, .slice A11 y10.length c11), (31, vi (y10.length : Int)), (32, vi (i12 : Int))] ∧ Le z10 z656 ∧ Le z0 z656 ∧ Pp tapiRef z656 A658 o658 ∧ Ht w0 (frz z656 :: (blk g9 [.pointer A658, .slice none 0 0, .slice none 0 0] 31) :: (blk g6 [.pointer none, .slice none 0 0, .slice none 0 0] 31) :: (blk g5 [.slice A1 p0.Refs.length c1, vi p0.Floor] 27) :: X) w')) y10.length ⟨0, 0, none, none, z10, rfl, Nat.zero_le _, hf, rfl, hm13, hle0, (Pp.nil _ _), hst10⟩ ?_
      rintro _ e' w659 ⟨i12, x657, o658, A658, z656, rfl, hi12, hf, rfl, hz659, hy659_0, f658, hst659⟩
      replace f11 := f11.mono hz659; replace f1 := f1.mono hz659
      refine Run.seq ?_
      refine Run.region ?_
      refine Ops.ex (Ex.lss rfl rfl) rfl rfl rfl ?_
      refine Ops.nil ?_
      refine Run.seq ?_
      refine Run.cond rfl (fun hc => ?_) (fun hc => ?_)
      · have hl12 := lt_of_dec hc
        obtain ⟨a12, nxb12, ha12, hnxb12, hf⟩ := forL_in hf hl12
        unfold go_plan_Of.b1 at hf
        try dsimp only at hf
        refine Run.skip ?_
        refine Run.seq ?_
        refine Run.block ?_
        refine Run.seq ?_
        refine Run.region ?_
        obtain ⟨g664, p664, o664, cs664, hA664, ho664, hr664, f664⟩ := SlH.elem f11.toH (atI_nat ha12)
        obtain rfl := hr664
        refine Ops.ex (Ex.ixA hA664 ho664 (atI_nat ha12) rfl rfl rfl Try.underlying25 sz37) rfl rfl rfl ?_
        refine Ops.loadAgg [vs a12.Name, vi a12.Kind, vi a12.From, vi a12.To] rfl Try.underlying37 rfl sz37 rfl (cells_of_zc rfl (f664.mono hst659.le)) rfl ?_
        refine Ops.allocF [vs [], vi 0, vi 0, vi 0] hst659 zr37 rfl rfl (fun g665 w665 hst665 => ?_)
        refine Ops.store 1 [vs a12.Name, vi a12.Kind, vi a12.From, vi a12.To] hst665 rfl rfl rfl rfl sz37 rfl (by simp [Value.oneCell']) (by simp) (fun w666 hst666 => ?_)
        refine Ops.nil ?_
        refine Run.seq ?_
        refine Run.region ?_
        refine Ops.ex (Ex.fieldAddr rfl Try.underlying37 rfl sz3) rfl rfl rfl ?_
        refine Ops.load rfl Try.underlying3 rfl (hst666.cell (i := 1) rfl rfl) rfl ?_
        refine Ops.ex (Ex.move rfl) rfl rfl rfl ?_
        refine Ops.ex (Ex.leq rfl rfl) rfl rfl rfl ?_
        refine Ops.nil ?_
        refine Run.cond rfl (fun hc => ?_) (fun hc => ?_)
        · replace hf := ifT (dec_T hc) hf
          have hm668 := Le.refl z656
          refine Run.drawH [([], fun w => ∃ ζ Y, Le z656 ζ ∧ Ht w0 (frz ζ :: (blk g665 [vs a12.Name, vi a12.Kind, vi a12.From, vi a12.To] 37) :: (blk g6 [.pointer none, .slice none 0 0, .slice none 0 0] 31) :: (blk g5 [.slice A1 p0.Refs.length c1, vi p0.Floor] 27) :: Y) w), ([3], fun w => ∃ ζ Y, Le z656 ζ ∧ Ht w0 (frz ζ :: (blk g9 [.pointer A658, .slice none 0 0, .slice none 0 0] 31) :: Y) w)] (by kernel_rfl) hst666 (fun w667 hst667 => ?_)
          have hS0 := (⟨_, _, (Le.refl _), (St.up (St.up (St.up (St.up hst667 4 rfl) 4 rfl) 3 rfl) 3 rfl)⟩ : (fun w => ∃ ζ Y, Le z656 ζ ∧ Ht w0 (frz ζ :: (blk g665 [vs a12.Name, vi a12.Kind, vi a12.From, vi a12.To] 37) :: (blk g6 [.pointer none, .slice none 0 0, .slice none 0 0] 31) :: (blk g5 [.slice A1 p0.Refs.length c1, vi p0.Floor] 27) :: Y) w) _)
          have hS1 := (⟨_, _, (Le.refl _), (St.up (St.up hst667 2 rfl) 1 rfl)⟩ : (fun w => ∃ ζ Y, Le z656 ζ ∧ Ht w0 (frz ζ :: (blk g9 [.pointer A658, .slice none 0 0, .slice none 0 0] 31) :: Y) w) _)
          refine Any.takeE 0 rfl rfl rfl rfl (by kernel_rfl) (fun _ _ _ _ _ h => h) ((Ex.fieldAddr rfl Try.underlying37 rfl sz3).s) ?_
          refine Any.take 0 1 rfl rfl rfl rfl rfl (by kernel_rfl) (fun _ _ _ _ _ h => h) (ExS.load rfl Try.underlying3 rfl (fun w hS => by obtain ⟨_, _, _, hs⟩ := hS; exact hs.cell (i := 1) rfl rfl)) hS0 ?_
          refine Any.takeE 2 rfl rfl rfl rfl (by kernel_rfl) (fun _ _ _ _ _ h => h) ((Ex.fieldAddr rfl Try.underlying31 rfl sz29).s) ?_
          refine Any.one 3 (by kernel_rfl) rfl rfl (One.of_ops rfl ?_)
          refine Ops.store 2 [.pointer (some ⟨g665, 0, none⟩)] hst667 rfl rfl rfl rfl sz29 rfl (by simp [Value.oneCell']) (by simp) (fun w669 hst669 => Ops.stop ?_)
          have hS0 := (⟨_, _, (Le.refl _), (St.up (St.up (St.up (St.up hst669 4 rfl) 4 rfl) 3 rfl) 3 rfl)⟩ : (fun w => ∃ ζ Y, Le z656 ζ ∧ Ht w0 (frz ζ :: (blk g665 [vs a12.Name, vi a12.Kind, vi a12.From, vi a12.To] 37) :: (blk g6 [.pointer none, .slice none 0 0, .slice none 0 0] 31) :: (blk g5 [.slice A1 p0.Refs.length c1, vi p0.Floor] 27) :: Y) w) _)
          refine ⟨⟨.inr (fun _ => hS0), .inl (by decide), trivial⟩, ?_⟩
          refine Any.takeE 4 rfl rfl rfl rfl (by kernel_rfl) (fun _ _ _ _ _ h => h) ((Ex.assign rfl).s) ?_
          refine Any.done (by kernel_rfl) ?_
          refine Run.endBlk ?_
          refine Run.region ?_
          refine Ops.ex (Ex.add rfl rfl) rfl rfl rfl ?_
          refine Ops.ex (Ex.move rfl) rfl rfl rfl ?_
          refine Ops.nil ?_
          refine Run.re 32 rfl (congrArg vi (wr_succ' hl12 hc12)) ?_
          obtain ⟨z670, hz670, f670, hst670⟩ := St.freezeB hst669
          replace f11 := f11.mono hz670; replace f664 := f664.mono hz670; replace f1 := f1.mono hz670
          replace hy659_0 := hy659_0.trans hz670
          replace hz659 := hz659.trans hz670
          replace hm668 := hm668.trans hz670
          have f671 : Pp tapiRef z670 (some ⟨g665, 0, none⟩) (some a12) := Pp.mk f670 rfl
          exact Run.sub (by exact subB_spec ⟨rfl, rfl, rfl, rfl, rfl, rfl, rfl, rfl, rfl, trivial⟩) (Run.stop ⟨y10.length - (i12 + 1), by omega, i12 + 1, a12.To, some a12, some ⟨g665, 0, none⟩, z670, rfl, by omega, (hnxb12 _).symm.trans hf, rfl, hz659, hy659_0, f671, hst670⟩)
        · replace hf := ifF (dec_F hc) hf
          refine Run.skip ?_
          refine Run.endBlk ?_
          refine Run.region ?_
          refine Ops.ex (Ex.add rfl rfl) rfl rfl rfl ?_
          refine Ops.ex (Ex.move rfl) rfl rfl rfl ?_
          refine Ops.nil ?_
          refine Run.re 32 rfl (congrArg vi (wr_succ' hl12 hc12)) ?_
          exact Run.sub (by exact subB_spec ⟨rfl, rfl, rfl, rfl, rfl, rfl, rfl, rfl, rfl, trivial⟩) (Run.stop ⟨y10.length - (i12 + 1), by omega, i12 + 1, x657, o658, A658, z656, rfl, by omega, (hnxb12 _).symm.trans hf, rfl, hz659, hy659_0, f658, (St.forget hst666 1)⟩)
      · replace hf := forL_out hf (nlt_of_dec hc)
        try dsimp only at hf
        refine Run.exit _ rfl ?_
        refine Run.seq ?_
        refine Run.seq ?_
        refine Run.region ?_
        refine Ops.ex (Ex.assign rfl) rfl rfl rfl ?_
        refine Ops.nil ?_
        refine Run.block ?_
        have hm673 := Le.refl z656
        have hst857 := hst659.row0 37 4
        refine Run.sub (e' := [(1, vi p1), (2, vi p2), (3, .pointer (some ⟨g5, 0, none⟩)), (6, .pointer (some ⟨g6, 0, none⟩)), (8, .pointer (some ⟨g9, 0, none⟩)), (9, vi x657), (12, vb true)]) (subB_spec ⟨rfl, rfl, rfl, rfl, rfl, rfl, rfl, trivial⟩) ?_
        refine Run.loop (fun mb672 => (fun e' w' => ∃ (x854 : Int) (b855 : Bool) (l856 : List apiRef) (A856 : Option Addr) (c856 : Nat) (d856 : List Value) (z853 : Zp), loopF (go_plan_Of.b2 p0 p1 p2 o658) mb672 (x854, b855, l856) = some r ∧ e' = [(1, vi p1), (2, vi p2), (3, .pointer (some ⟨g5, 0, none⟩)), (6, .pointer (some ⟨g6, 0, none⟩)), (8, .pointer (some ⟨g9, 0, none⟩)), (9, vi x854), (12, vb b855)] ∧ Le z656 z853 ∧ Le z0 z853 ∧ Le z10 z853 ∧ Cs tapiRef z853 d856 l856 ∧ Ht w0 (frz z853 :: (orow 37 4 (.slice A856 l856.length c856) l856.length d856) :: (blk g9 [.pointer A658, .slice A856 l856.length c856, .slice none 0 0] 31) :: (blk g6 [.pointer none, .slice none 0 0, .slice none 0 0] 31) :: (blk g5 [.slice A1 p0.Refs.length c1, vi p0.Floor] 27) :: X) w')) fuel ⟨x657, true, [], none, 0, [], z656, hf, rfl, hm673, hy659_0, hz659, (Cs.nil _ _), hst857⟩ ?_
        rintro mb672 e' w859 ⟨x854, b855, l856, A856, c856, d856, z853, hf, rfl, hz859, hy859_0, hy859_1, f856, hst859⟩
        replace f658 := f658.mono hz859; replace f1 := f1.mono hz859
        obtain ⟨mb672', nxb672, rfl, hnxb672, hf⟩ := loopF_in hf
        unfold go_plan_Of.b2 at hf
        try dsimp only at hf
        refine Run.seq ?_
        refine Run.seq ?_
        refine Run.region ?_
        refine Ops.ex (Ex.move rfl) rfl rfl rfl ?_
        refine Ops.nil ?_
        refine Run.cond rfl (fun hc => ?_) (fun hc => ?_)
        · replace hf := ifTb hc hf
          refine Run.skip ?_
          refine Run.block ?_
          refine Run.seq ?_
          refine Run.region ?_
          refine Ops.ex (Ex.assign rfl) rfl rfl rfl ?_
          refine Ops.nil ?_
          refine Run.seq ?_
          refine Run.region ?_
          refine Ops.loadAgg _ rfl Try.underlying27 rfl sz27 rfl (hst859.cells (i := 4) rfl 0 2) rfl ?_
          obtain ⟨y860, hy860, hf⟩ := bnd hf
          refine Ops.call rfl rfl Try.func19 (by kernel_rfl) (by kernel_rfl) rfl (go_plan_kind.walk (p0 := p0) (p1 := 1) (hst := hst859) (f1 := f1) (hf := hy860)) ?_
          rintro _ w860 ⟨z860, A861, c861, rfl, hz860, f861, hst860⟩
          refine ⟨_, rfl, ?_⟩
          replace f1 := f1.mono hz860; replace f856 := f856.mono hz860; replace f658 := f658.mono hz860
          replace hy859_0 := hy859_0.trans hz860
          replace hy859_1 := hy859_1.trans hz860
          replace hz859 := hz859.trans hz860
          refine Ops.ex (Ex.len' rfl rfl rfl Try.underlying25) rfl rfl rfl ?_
          refine Ops.ex (Ex.move rfl) rfl rfl rfl ?_
          refine Ops.nil ?_
          refine Run.block ?_
          have hc862 := f861.cap
          have hm863 := Le.refl z860
          refine Run.sub (e' := [(1, vi p1), (2, vi p2), (3, .pointer (some ⟨g5, 0, none⟩)), (6, .pointer (some ⟨g6, 0, none⟩)), (8, .pointer (some ⟨g9, 0, none⟩)), (9, vi x854), (12, vb false), (46, .slice A861 y860.length c861), (47, vi (y860.length : Int)), (48, vi ((0 : Nat) : Int))]) (subB_spec ⟨rfl, rfl, rfl, rfl, rfl, rfl, rfl, rfl, rfl, rfl, trivial⟩) ?_
          refine Run.loop (fun mb862 => (fun e' w' => ∃ (i862 : Nat) (z892 : Zp), mb862 = y860.length - i862 ∧ i862 ≤ y860.length ∧ forL (go_plan_Of.b3 p2 x854 l856 nxb672) (fun _ => nxb672 (x854, false, l856)) i862 (y860.drop i862) () = some r ∧ e' = [(1, vi p1), (2, vi p2), (3, .pointer (some ⟨g5, 0, none⟩)), (6, .pointer (some ⟨g6, 0, none⟩)), (8, .pointer (some ⟨g9, 0, none⟩)), (9, vi x854), (12, vb false), (46, .slice A861 y860.length c861), (47, vi (y860.length : Int)), (48, vi (i862 : Int))] ∧ Le z860 z892 ∧ Le z0 z892 ∧ Le z10 z892 ∧ Le z656 z892 ∧ Ht w0 (frz z892 :: (orow 37 4 (.slice A856 l856.length c856) l856.length d856) :: (blk g9 [.pointer A658, .slice A856 l856.length c856, .slice none 0 0] 31) :: (blk g6 [.pointer none, .slice none 0 0, .slice none 0 0] 31) :: (blk g5 [.slice A1 p0.Refs.length c1, vi p0.Floor] 27) :: X) w')) y860.length ⟨0, z860, rfl, Nat.zero_le _, hf, rfl, hm863, hy859_0, hy859_1, hz859, hst860⟩ ?_
          rintro _ e' w893 ⟨i862, z892, rfl, hi862, hf, rfl, hz893, hy893_0, hy893_1, hy893_2, hst893⟩
          replace f861 := f861.mono hz893; replace f856 := f856.mono hz893; replace f658 := f658.mono hz893; replace f1 := f1.mono hz893
          refine Run.seq ?_
          refine Run.region ?_
          refine Ops.ex (Ex.lss rfl rfl) rfl rfl rfl ?_
          refine Ops.nil ?_
          refine Run.seq ?_
          refine Run.cond rfl (fun hc => ?_) (fun hc => ?_)
          · have hl862 := lt_of_dec hc
            obtain ⟨a862, nxb862, ha862, hnxb862, hf⟩ := forL_in hf hl862
            unfold go_plan_Of.b3 at hf
            try dsimp only at hf
            refine Run.skip ?_
            refine Run.seq ?_
            refine Run.block ?_
            refine Run.seq ?_
            refine Run.region ?_
            obtain ⟨g898, p898, o898, cs898, hA898, ho898, hr898, f898⟩ := SlH.elem f861.toH (atI_nat ha862)
            obtain rfl := hr898
            refine Ops.ex (Ex.ixA hA898 ho898 (atI_nat ha862) rfl rfl rfl Try.underlying25 sz37) rfl rfl rfl ?_
            refine Ops.loadAgg [vs a862.Name, vi a862.Kind, vi a862.From, vi a862.To] rfl Try.underlying37 rfl sz37 rfl (cells_of_zc rfl (f898.mono hst893.le)) rfl ?_
            refine Ops.allocF [vs [], vi 0, vi 0, vi 0] hst893 zr37 rfl rfl (fun g899 w899 hst899 => ?_)
            refine Ops.store 1 [vs a862.Name, vi a862.Kind, vi a862.From, vi a862.To] hst899 rfl rfl rfl rfl sz37 rfl (by simp [Value.oneCell']) (by simp) (fun w900 hst900 => ?_)
            refine Ops.nil ?_
            refine Run.seq ?_
            refine Run.region ?_
            refine Ops.ex (Ex.fieldAddr rfl Try.underlying37 rfl sz3) rfl rfl rfl ?_
            refine Ops.load rfl Try.underlying3 rfl (hst900.cell (i := 1) rfl rfl) rfl ?_
            refine Ops.ex (Ex.move rfl) rfl rfl rfl ?_
            refine Ops.ex (Ex.eqlI rfl rfl) rfl rfl rfl ?_
            refine Ops.ex (Ex.move rfl) rfl rfl rfl ?_
            refine Ops.case 56 rfl (fun hc => ?_) (fun hc => ?_)
            · replace hf := ifT (dec_T hc) hf
              refine Ops.on rfl ?_
              refine Ops.ex (Ex.fieldAddr rfl Try.underlying37 rfl sz3) rfl rfl rfl ?_
              refine Ops.on rfl ?_
              refine Ops.load rfl Try.underlying3 rfl (hst900.cell (i := 1) rfl rfl) rfl ?_
              refine Ops.on rfl ?_
              refine Ops.ex (Ex.move rfl) rfl rfl rfl ?_
              refine Ops.on rfl ?_
              refine Ops.ex (Ex.gtr rfl rfl) rfl rfl rfl ?_
              refine Ops.ex (Ex.pickT rfl rfl) rfl rfl rfl ?_
              refine Ops.ex (Ex.move rfl) rfl rfl rfl ?_
              refine Ops.case 62 rfl (fun hc => ?_) (fun hc => ?_)
              · replace hf := ifT (dec_T hc) hf
                refine Ops.on rfl ?_
                refine Ops.ex (Ex.fieldAddr rfl Try.underlying37 rfl sz3) rfl rfl rfl ?_
                refine Ops.on rfl ?_
                refine Ops.load rfl Try.underlying3 rfl (hst900.cell (i := 1) rfl rfl) rfl ?_
                refine Ops.on rfl ?_
                refine Ops.ex (Ex.move rfl) rfl rfl rfl ?_
                refine Ops.on rfl ?_
                refine Ops.ex (Ex.leq rfl rfl) rfl rfl rfl ?_
                refine Ops.ex (Ex.pickT rfl rfl) rfl rfl rfl ?_
                refine Ops.nil ?_
                refine Run.cond rfl (fun hc => ?_) (fun hc => ?_)
                · replace hf := ifT (dec_T hc) hf
                  refine Run.seq ?_
                  have hm902 := Le.refl z892
                  refine Run.drawH [([], fun w => ∃ ζ Y, Le z892 ζ ∧ Ht w0 (frz ζ :: (blk g899 [vs a862.Name, vi a862.Kind, vi a862.From, vi a862.To] 37) :: (blk g6 [.pointer none, .slice none 0 0, .slice none 0 0] 31) :: (blk g5 [.slice A1 p0.Refs.length c1, vi p0.Floor] 27) :: Y) w), ([4, 8], fun w => ∃ ζ Y, Le z892 ζ ∧ Ht w0 (frz ζ :: (orow 37 4 (.slice A856 l856.length c856) l856.length d856) :: Y) w), ([8], fun w => ∃ ζ Y, Le z892 ζ ∧ Ht w0 (frz ζ :: (blk g9 [.pointer A658, .slice A856 l856.length c856, .slice none 0 0] 31) :: Y) w)] (by kernel_rfl) hst900 (fun w901 hst901 => ?_)
                  have hS0 := (⟨_, _, (Le.refl _), (St.up (St.up (St.up (St.up hst901 5 rfl) 5 rfl) 3 rfl) 3 rfl)⟩ : (fun w => ∃ ζ Y, Le z892 ζ ∧ Ht w0 (frz ζ :: (blk g899 [vs a862.Name, vi a862.Kind, vi a862.From, vi a862.To] 37) :: (blk g6 [.pointer none, .slice none 0 0, .slice none 0 0] 31) :: (blk g5 [.slice A1 p0.Refs.length c1, vi p0.Floor] 27) :: Y) w) _)
                  have hS1 := (⟨_, _, (Le.refl _), (St.up (St.up hst901 2 rfl) 1 rfl)⟩ : (fun w => ∃ ζ Y, Le z892 ζ ∧ Ht w0 (frz ζ :: (orow 37 4 (.slice A856 l856.length c856) l856.length d856) :: Y) w) _)
                  have hS2 := (⟨_, _, (Le.refl _), (St.up (St.up hst901 3 rfl) 1 rfl)⟩ : (fun w => ∃ ζ Y, Le z892 ζ ∧ Ht w0 (frz ζ :: (blk g9 [.pointer A658, .slice A856 l856.length c856, .slice none 0 0] 31) :: Y) w) _)
                  refine Any.takeE 0 rfl rfl rfl rfl (by kernel_rfl) (fun _ _ _ _ _ h => h) ((Ex.fieldAddr rfl Try.underlying31 rfl sz25).s) ?_
                  refine Any.take 2 1 rfl rfl rfl rfl rfl (by kernel_rfl) (fun _ _ _ _ _ h => h) (ExS.load rfl Try.underlying25 rfl (fun w hS => by obtain ⟨_, _, _, hs⟩ := hS; exact hs.cell (i := 1) rfl rfl)) hS2 ?_
                  refine Any.take 0 2 rfl rfl rfl rfl rfl (by kernel_rfl) (fun _ _ _ _ _ h => h) (ExS.loadAgg [vs a862.Name, vi a862.Kind, vi a862.From, vi a862.To] rfl Try.underlying37 rfl sz37 rfl (fun w hS => by obtain ⟨_, _, _, hs⟩ := hS; exact hs.cells (i := 1) rfl 0 4)) hS0 ?_
                  refine Any.takeE 5 rfl rfl rfl rfl (by kernel_rfl) (fun _ _ _ _ _ h => h) ((Ex.fieldAddr rfl Try.underlying37 rfl sz3).s) ?_
                  refine Any.take 0 6 rfl rfl rfl rfl rfl (by kernel_rfl) (fun _ _ _ _ _ h => h) (ExS.load rfl Try.underlying3 rfl (fun w hS => by obtain ⟨_, _, _, hs⟩ := hS; exact hs.cell (i := 1) rfl rfl)) hS0 ?_
                  refine Any.one 3 (by kernel_rfl) rfl rfl (One.of_ops rfl ?_)
                  refine Ops.sliceF [vs a862.Name, vi a862.Kind, vi a862.From, vi a862.To] hst901 rfl Try.underlying25 sz37 zr37 rfl rfl (by kernel_rfl) rfl (by simp [Value.oneCell']) rfl (fun A903 w903 hst903 => Ops.stop ?_)
                  have f903 : Cs tapiRef z892 [vs a862.Name, vi a862.Kind, vi a862.From, vi a862.To] [a862] := (Cs.cons (c := [vs a862.Name, vi a862.Kind, vi a862.From, vi a862.To]) rfl (Cs.nil _ _))
                  have hS0 := (⟨_, _, (Le.refl _), (St.up (St.up (St.up (St.up hst903 6 rfl) 6 rfl) 4 rfl) 3 rfl)⟩ : (fun w => ∃ ζ Y, Le z892 ζ ∧ Ht w0 (frz ζ :: (blk g899 [vs a862.Name, vi a862.Kind, vi a862.From, vi a862.To] 37) :: (blk g6 [.pointer none, .slice none 0 0, .slice none 0 0] 31) :: (blk g5 [.slice A1 p0.Refs.length c1, vi p0.Floor] 27) :: Y) w) _)
                  have hS1 := (⟨_, _, (Le.refl _), (St.up (St.up hst903 3 rfl) 1 rfl)⟩ : (fun w => ∃ ζ Y, Le z892 ζ ∧ Ht w0 (frz ζ :: (orow 37 4 (.slice A856 l856.length c856) l856.length d856) :: Y) w) _)
                  have hS2 := (⟨_, _, (Le.refl _), (St.up (St.up hst903 4 rfl) 1 rfl)⟩ : (fun w => ∃ ζ Y, Le z892 ζ ∧ Ht w0 (frz ζ :: (blk g9 [.pointer A658, .slice A856 l856.length c856, .slice none 0 0] 31) :: Y) w) _)
                  refine ⟨⟨.inr (fun _ => hS0), .inr (fun _ => hS1), .inr (fun _ => hS2), trivial⟩, ?_⟩
                  obtain ⟨l904, hy904, hf⟩ := bnd hf
                  refine Any.one 4 (by kernel_rfl) rfl rfl (One.of_ops rfl ?_)
                  refine Ops.app 3 hst903 rfl f856 rfl (own_slh f903 rfl (hst903.get (i := 1) rfl)) rfl hy904 rfl rfl rfl rfl Try.underlying25 inf37 rfl (by decide) (by decide) rfl (fun A904 c904 d904 w904 f904 hst904 => Ops.stop ?_)
                  have hS0 := (⟨_, _, (Le.refl _), (St.up (St.up (St.up (St.up hst904 6 rfl) 6 rfl) 4 rfl) 3 rfl)⟩ : (fun w => ∃ ζ Y, Le z892 ζ ∧ Ht w0 (frz ζ :: (blk g899 [vs a862.Name, vi a862.Kind, vi a862.From, vi a862.To] 37) :: (blk g6 [.pointer none, .slice none 0 0, .slice none 0 0] 31) :: (blk g5 [.slice A1 p0.Refs.length c1, vi p0.Floor] 27) :: Y) w) _)
                  have hS2 := (⟨_, _, (Le.refl _), (St.up (St.up hst904 4 rfl) 1 rfl)⟩ : (fun w => ∃ ζ Y, Le z892 ζ ∧ Ht w0 (frz ζ :: (blk g9 [.pointer A658, .slice A856 l856.length c856, .slice none 0 0] 31) :: Y) w) _)
                  refine ⟨⟨.inr (fun _ => hS0), .inl (by decide), .inr (fun _ => hS2), trivial⟩, ?_⟩
                  refine Any.takeE 7 rfl rfl rfl rfl (by kernel_rfl) (fun _ _ _ _ _ h => h) ((Ex.fieldAddr rfl Try.underlying31 rfl sz25).s) ?_
                  refine Any.one 8 (by kernel_rfl) rfl rfl (One.of_ops rfl ?_)
                  refine Ops.store 4 [.slice A904 l904.length c904] hst904 rfl rfl rfl rfl sz25 rfl (by simp [Value.oneCell']) (by simp) (fun w905 hst905 => Ops.stop ?_)
                  have hS0 := (⟨_, _, (Le.refl _), (St.up (St.up (St.up (St.up hst905 6 rfl) 6 rfl) 4 rfl) 3 rfl)⟩ : (fun w => ∃ ζ Y, Le z892 ζ ∧ Ht w0 (frz ζ :: (blk g899 [vs a862.Name, vi a862.Kind, vi a862.From, vi a862.To] 37) :: (blk g6 [.pointer none, .slice none 0 0, .slice none 0 0] 31) :: (blk g5 [.slice A1 p0.Refs.length c1, vi p0.Floor] 27) :: Y) w) _)
                  refine ⟨⟨.inr (fun _ => hS0), .inl (by decide), .inl (by decide), trivial⟩, ?_⟩
                  refine Any.takeE 9 rfl rfl rfl rfl (by kernel_rfl) (fun _ _ _ _ _ h => h) ((Ex.assign rfl).s) ?_
                  refine Any.takeE 10 rfl rfl rfl rfl (by kernel_rfl) (fun _ _ _ _ _ h => h) ((Ex.assign rfl).s) ?_
                  refine Any.done (by kernel_rfl) ?_
                  refine Run.exit _ rfl ?_
                  refine Run.endBlk ?_
                  exact Run.sub (by exact subB_spec ⟨rfl, rfl, rfl, rfl, rfl, rfl, rfl, trivial⟩) (Run.stop ⟨mb672', Nat.lt_succ_self _, a862.To, true, l904, A904, c904, d904, z892, (hnxb672 _).symm.trans hf, rfl, hy893_2, hy893_0, hy893_1, f904, (St.forget (St.forget hst905 2) 1)⟩)
                · replace hf := ifF (dec_F hc) hf
                  refine Run.skip ?_
                  refine Run.endBlk ?_
                  refine Run.region ?_
                  refine Ops.ex (Ex.add rfl rfl) rfl rfl rfl ?_
                  refine Ops.ex (Ex.move rfl) rfl rfl rfl ?_
                  refine Ops.nil ?_
                  refine Run.re 48 rfl (congrArg vi (wr_succ' hl862 hc862)) ?_
                  exact Run.sub (by exact subB_spec ⟨rfl, rfl, rfl, rfl, rfl, rfl, rfl, rfl, rfl, rfl, trivial⟩) (Run.stop ⟨y860.length - (i862 + 1), by omega, i862 + 1, z892, rfl, by omega, (hnxb862 _).symm.trans hf, rfl, hz893, hy893_0, hy893_1, hy893_2, (St.forget hst900 1)⟩)
              · replace hf := ifF (dec_F hc) hf
                refine Ops.off rfl rfl ?_
                refine Ops.off rfl rfl ?_
                refine Ops.off rfl rfl ?_
                refine Ops.off rfl rfl ?_
                refine Ops.ex (Ex.pickF rfl rfl) rfl rfl rfl ?_
                refine Ops.nil ?_
                refine Run.condF rfl rfl ?_
                refine Run.skip ?_
                refine Run.endBlk ?_
                refine Run.region ?_
                refine Ops.ex (Ex.add rfl rfl) rfl rfl rfl ?_
                refine Ops.ex (Ex.move rfl) rfl rfl rfl ?_
                refine Ops.nil ?_
                refine Run.re 48 rfl (congrArg vi (wr_succ' hl862 hc862)) ?_
                exact Run.sub (by exact subB_spec ⟨rfl, rfl, rfl, rfl, rfl, rfl, rfl, rfl, rfl, rfl, trivial⟩) (Run.stop ⟨y860.length - (i862 + 1), by omega, i862 + 1, z892, rfl, by omega, (hnxb862 _).symm.trans hf, rfl, hz893, hy893_0, hy893_1, hy893_2, (St.forget hst900 1)⟩)
            · replace hf := ifF (dec_F hc) hf
              refine Ops.off rfl rfl ?_
              refine Ops.off rfl rfl ?_
              refine Ops.off rfl rfl ?_
              refine Ops.off rfl rfl ?_
              refine Ops.ex (Ex.pickF rfl rfl) rfl rfl rfl ?_
              refine Ops.ex (Ex.move rfl) rfl rfl rfl ?_
              refine Ops.off rfl rfl ?_
              refine Ops.off rfl rfl ?_
              refine Ops.off rfl rfl ?_
              refine Ops.off rfl rfl ?_
              refine Ops.ex (Ex.pickF rfl rfl) rfl rfl rfl ?_
              refine Ops.nil ?_
              refine Run.condF rfl rfl ?_
              refine Run.skip ?_
              refine Run.endBlk ?_
              refine Run.region ?_
              refine Ops.ex (Ex.add rfl rfl) rfl rfl rfl ?_
              refine Ops.ex (Ex.move rfl) rfl rfl rfl ?_
              refine Ops.nil ?_
              refine Run.re 48 rfl (congrArg vi (wr_succ' hl862 hc862)) ?_
              exact Run.sub (by exact subB_spec ⟨rfl, rfl, rfl, rfl, rfl, rfl, rfl, rfl, rfl, rfl, trivial⟩) (Run.stop ⟨y860.length - (i862 + 1), by omega, i862 + 1, z892, rfl, by omega, (hnxb862 _).symm.trans hf, rfl, hz893, hy893_0, hy893_1, hy893_2, (St.forget hst900 1)⟩)
          · replace hf := forL_out hf (nlt_of_dec hc)
            try dsimp only at hf
            refine Run.exit _ rfl ?_
            refine Run.endBlk ?_
            exact Run.sub (by exact subB_spec ⟨rfl, rfl, rfl, rfl, rfl, rfl, rfl, trivial⟩) (Run.stop ⟨mb672', Nat.lt_succ_self _, x854, false, l856, A856, c856, d856, z892, (hnxb672 _).symm.trans hf, rfl, hy893_2, hy893_0, hy893_1, f856, hst893⟩)
        · replace hf := ifFb hc hf
          refine Run.exit _ rfl ?_
          refine Run.seq ?_
          refine Run.region ?_
          refine Ops.loadAgg _ rfl Try.underlying27 rfl sz27 rfl (hst859.cells (i := 4) rfl 0 2) rfl ?_
          obtain ⟨y906, hy906, hf⟩ := bnd hf
          refine Ops.call rfl rfl Try.func19 (by kernel_rfl) (by kernel_rfl) rfl (go_plan_kind.walk (p0 := p0) (p1 := 2) (hst := hst859) (f1 := f1) (hf := hy906)) ?_
          rintro _ w906 ⟨z906, A907, c907, rfl, hz906, f907, hst906⟩
          refine ⟨_, rfl, ?_⟩
          replace f1 := f1.mono hz906; replace f856 := f856.mono hz906; replace f658 := f658.mono hz906
          replace hy859_0 := hy859_0.trans hz906
          replace hy859_1 := hy859_1.trans hz906
          replace hz859 := hz859.trans hz906
          refine Ops.ex (Ex.assign rfl) rfl rfl rfl ?_
          refine Ops.nil ?_
          refine Run.seq ?_
          refine Run.seq ?_
          refine Run.region ?_
          refine Ops.ex (Ex.move rfl) rfl rfl rfl ?_
          refine Ops.ex (Ex.len' rfl rfl rfl Try.underlying25) rfl rfl rfl ?_
          refine Ops.ex (Ex.move rfl) rfl rfl rfl ?_
          refine Ops.nil ?_
          refine Run.block ?_
          have hc908 := f907.cap
          have hm909 := Le.refl z906
          have hst958 := hst906.row0 37 4
          refine Run.sub (e' := [(1, vi p1), (2, vi p2), (6, .pointer (some ⟨g6, 0, none⟩)), (8, .pointer (some ⟨g9, 0, none⟩)), (9, vi x854), (15, .slice A907 y906.length c907), (79, .slice A907 y906.length c907), (80, vi (y906.length : Int)), (81, vi ((0 : Nat) : Int))]) (subB_spec ⟨rfl, rfl, rfl, rfl, rfl, rfl, rfl, rfl, rfl, trivial⟩) ?_
          refine Run.loop (fun mb908 => (fun e' w' => ∃ (i908 : Nat) (x956 : Int) (l957 : List apiRef) (A957 : Option Addr) (c957 : Nat) (d957 : List Value) (z955 : Zp), mb908 = y906.length - i908 ∧ i908 ≤ y906.length ∧ forL (go_plan_Of.b4 p1 p2 y906) (fun (x956, l957) => if x956 < p2 then (some ((⟨none, [], []⟩ : planPlan), 9)) else (some ((⟨o658, l856, l957⟩ : planPlan), 0))) i908 (y906.drop i908) (x956, l957) = some r ∧ e' = [(1, vi p1), (2, vi p2), (6, .pointer (some ⟨g6, 0, none⟩)), (8, .pointer (some ⟨g9, 0, none⟩)), (9, vi x956), (15, .slice A907 y906.length c907), (79, .slice A907 y906.length c907), (80, vi (y906.length : Int)), (81, vi (i908 : Int))] ∧ Le z906 z955 ∧ Le z0 z955 ∧ Le z10 z955 ∧ Le z656 z955 ∧ Cs tapiRef z955 d957 l957 ∧ Ht w0 (frz z955 :: (orow 37 4 (.slice A957 l957.length c957) l957.length d957) :: (orow 37 4 (.slice A856 l856.length c856) l856.length d856) :: (blk g9 [.pointer A658, .slice A856 l856.length c856, .slice A957 l957.length c957] 31) :: (blk g6 [.pointer none, .slice none 0 0, .slice none 0 0] 31) :: X) w')) y906.length ⟨0, x854, [], none, 0, [], z906, rfl, Nat.zero_le _, hf, rfl, hm909, hy859_0, hy859_1, hz859, (Cs.nil _ _), (St.forget hst958 5)⟩ ?_
          rintro _ e' w960 ⟨i908, x956, l957, A957, c957, d957, z955, rfl, hi908, hf, rfl, hz960, hy960_0, hy960_1, hy960_2, f957, hst960⟩
          replace f907 := f907.mono hz960; replace f856 := f856.mono hz960; replace f658 := f658.mono hz960
          refine Run.seq ?_
          refine Run.region ?_
          refine Ops.ex (Ex.lss rfl rfl) rfl rfl rfl ?_
          refine Ops.nil ?_
          refine Run.seq ?_
          refine Run.cond rfl (fun hc => ?_) (fun hc => ?_)
          · have hl908 := lt_of_dec hc
            obtain ⟨a908, nxb908, ha908, hnxb908, hf⟩ := forL_in hf hl908
            unfold go_plan_Of.b4 at hf
            try dsimp only at hf
            refine Run.skip ?_
            refine Run.seq ?_
            refine Run.block ?_
            refine Run.seq ?_
            refine Run.region ?_
            refine Ops.ex (Ex.move rfl) rfl rfl rfl ?_
            obtain ⟨g965, p965, o965, cs965, hA965, ho965, hr965, f965⟩ := SlH.elem f907.toH (atI_nat ha908)
            obtain rfl := hr965
            refine Ops.ex (Ex.ixA hA965 ho965 (atI_nat ha908) rfl rfl rfl Try.underlying25 sz37) rfl rfl rfl ?_
            refine Ops.loadAgg [vs a908.Name, vi a908.Kind, vi a908.From, vi a908.To] rfl Try.underlying37 rfl sz37 rfl (cells_of_zc rfl (f965.mono hst960.le)) rfl ?_
            refine Ops.allocF [vs [], vi 0, vi 0, vi 0] hst960 zr37 rfl rfl (fun g966 w966 hst966 => ?_)
            refine Ops.ex (Ex.assign rfl) rfl rfl rfl ?_
            refine Ops.store 1 [vs a908.Name, vi a908.Kind, vi a908.From, vi a908.To] hst966 rfl rfl rfl rfl sz37 rfl (by simp [Value.oneCell']) (by simp) (fun w967 hst967 => ?_)
            refine Ops.nil ?_
            refine Run.seq ?_
            refine Run.region ?_
            refine Ops.ex (Ex.fieldAddr rfl Try.underlying37 rfl sz3) rfl rfl rfl ?_
            refine Ops.load rfl Try.underlying3 rfl (hst967.cell (i := 1) rfl rfl) rfl ?_
            refine Ops.ex (Ex.assign rfl) rfl rfl rfl ?_
            refine Ops.nil ?_
            refine Run.seq ?_
            refine Run.seq ?_
            refine Run.region ?_
            refine Ops.ex (Ex.move rfl) rfl rfl rfl ?_
            refine Ops.ex (Ex.move rfl) rfl rfl rfl ?_
            refine Ops.ex (Ex.len' rfl rfl rfl Try.underlying25) rfl rfl rfl ?_
            refine Ops.ex (Ex.sub rfl rfl) rfl rfl rfl ?_
            refine Ops.ex (Ex.eqlI rfl rfl) rfl rfl rfl ?_
            refine Ops.nil ?_
            have hm969 := Le.refl z955
            apply Run.jn (fun e' w' => ∃ (x971 : Int) (z970 : Zp), go_plan_Of.j1 p2 x956 l957 a908 nxb908 x971 = some r ∧ e' = [(1, vi p1), (2, vi p2), (6, .pointer (some ⟨g6, 0, none⟩)), (8, .pointer (some ⟨g9, 0, none⟩)), (9, vi x956), (15, .slice A907 y906.length c907), (17, .pointer (some ⟨g966, 0, none⟩)), (18, vi x971), (79, .slice A907 y906.length c907), (80, vi (y906.length : Int)), (81, vi (i908 : Int))] ∧ Le z955 z970 ∧ Le z0 z970 ∧ Le z10 z970 ∧ Le z656 z970 ∧ Le z906 z970 ∧ Ht w0 (frz z970 :: (blk g966 [vs a908.Name, vi a908.Kind, vi a908.From, vi a908.To] 37) :: (orow 37 4 (.slice A957 l957.length c957) l957.length d957) :: (orow 37 4 (.slice A856 l856.length c856) l856.length d856) :: (blk g9 [.pointer A658, .slice A856 l856.length c856, .slice A957 l957.length c957] 31) :: (blk g6 [.pointer none, .slice none 0 0, .slice none 0 0] 31) :: X) w')
            · intro hj968
              refine Run.cond rfl (fun hc => ?_) (fun hc => ?_)
              · replace hf := ifT (dec_T hc) hf
                refine Run.region ?_
                refine Ops.ex (Ex.move rfl) rfl rfl rfl ?_
                refine Ops.ex (Ex.move rfl) rfl rfl rfl ?_
                refine Ops.ex (Ex.max2 rfl rfl rfl) rfl rfl rfl ?_
                refine Ops.ex (Ex.assign rfl) rfl rfl rfl ?_
                refine Ops.nil ?_
                exact Run.sub (by exact subB_spec ⟨rfl, rfl, rfl, rfl, rfl, rfl, rfl, rfl, rfl, rfl, rfl, trivial⟩) (hj968 _ _ ⟨max a908.To p1, z955, hf, rfl, hm969, hy960_0, hy960_1, hy960_2, hz960, hst967⟩)
              · replace hf := ifF (dec_F hc) hf
                refine Run.skip ?_
                exact Run.sub (by exact subB_spec ⟨rfl, rfl, rfl, rfl, rfl, rfl, rfl, rfl, rfl, rfl, rfl, trivial⟩) (hj968 _ _ ⟨a908.To, z955, hf, rfl, hm969, hy960_0, hy960_1, hy960_2, hz960, hst967⟩)
            · rintro e' w972 ⟨x971, z970, hf, rfl, hz972, hy972_0, hy972_1, hy972_2, hy972_3, hst972⟩
              replace f907 := f907.mono hz972; replace f957 := f957.mono hz972; replace f856 := f856.mono hz972; replace f658 := f658.mono hz972
              unfold go_plan_Of.j1 at hf
              refine Run.seq ?_
              refine Run.region ?_
              refine Ops.ex (Ex.move rfl) rfl rfl rfl ?_
              refine Ops.ex (Ex.move rfl) rfl rfl rfl ?_
              refine Ops.ex (Ex.lss rfl rfl) rfl rfl rfl ?_
              refine Ops.ex (Ex.move rfl) rfl rfl rfl ?_
              refine Ops.case 99 rfl (fun hc => ?_) (fun hc => ?_)
              · replace hf := ifT (dec_T hc) hf
                refine Ops.on rfl ?_
                refine Ops.ex (Ex.fieldAddr rfl Try.underlying37 rfl sz3) rfl rfl rfl ?_
                refine Ops.on rfl ?_
                refine Ops.load rfl Try.underlying3 rfl (hst972.cell (i := 1) rfl rfl) rfl ?_
                refine Ops.on rfl ?_
                refine Ops.ex (Ex.move rfl) rfl rfl rfl ?_
                refine Ops.on rfl ?_
                refine Ops.ex (Ex.leq rfl rfl) rfl rfl rfl ?_
                refine Ops.ex (Ex.pickT rfl rfl) rfl rfl rfl ?_
                refine Ops.ex (Ex.move rfl) rfl rfl rfl ?_
                refine Ops.case 105 rfl (fun hc => ?_) (fun hc => ?_)
                · replace hf := ifT (dec_T hc) hf
                  refine Ops.on rfl ?_
                  refine Ops.ex (Ex.move rfl) rfl rfl rfl ?_
                  refine Ops.on rfl ?_
                  refine Ops.ex (Ex.move rfl) rfl rfl rfl ?_
                  refine Ops.on rfl ?_
                  refine Ops.ex (Ex.gtr rfl rfl) rfl rfl rfl ?_
                  refine Ops.ex (Ex.pickT rfl rfl) rfl rfl rfl ?_
                  refine Ops.nil ?_
                  refine Run.cond rfl (fun hc => ?_) (fun hc => ?_)
                  · replace hf := ifT (dec_T hc) hf
                    refine Run.region ?_
                    refine Ops.ex (Ex.fieldAddr rfl Try.underlying31 rfl sz25) rfl rfl rfl ?_
                    refine Ops.load rfl Try.underlying25 rfl (hst972.cell (i := 4) rfl rfl) rfl ?_
                    refine Ops.loadAgg _ rfl Try.underlying37 rfl sz37 rfl (hst972.cells (i := 1) rfl 0 4) rfl ?_
                    refine Ops.sliceF [vs a908.Name, vi a908.Kind, vi a908.From, vi a908.To] hst972 rfl Try.underlying25 sz37 zr37 rfl rfl (by kernel_rfl) rfl (by simp [Value.oneCell']) rfl (fun A973 w973 hst973 => ?_)
                    have f973 : Cs tapiRef z970 [vs a908.Name, vi a908.Kind, vi a908.From, vi a908.To] [a908] := (Cs.cons (c := [vs a908.Name, vi a908.Kind, vi a908.From, vi a908.To]) rfl (Cs.nil _ _))
                    obtain ⟨l974, hy974, hf⟩ := bnd hf
                    refine Ops.app 3 hst973 rfl f957 rfl (own_slh f973 rfl (hst973.get (i := 1) rfl)) rfl hy974 rfl rfl rfl rfl Try.underlying25 inf37 rfl (by decide) (by decide) rfl (fun A974 c974 d974 w974 f974 hst974 => ?_)
                    refine Ops.ex (Ex.move rfl) rfl rfl rfl ?_
                    refine Ops.ex (Ex.fieldAddr rfl Try.underlying31 rfl sz25) rfl rfl rfl ?_
                    refine Ops.store 5 [.slice A974 l974.length c974] hst974 rfl rfl rfl rfl sz25 rfl (by simp [Value.oneCell']) (by simp) (fun w975 hst975 => ?_)
                    refine Ops.ex (Ex.assign rfl) rfl rfl rfl ?_
                    refine Ops.nil ?_
                    refine Run.endBlk ?_
                    refine Run.region ?_
                    refine Ops.ex (Ex.add rfl rfl) rfl rfl rfl ?_
                    refine Ops.ex (Ex.move rfl) rfl rfl rfl ?_
                    refine Ops.nil ?_
                    refine Run.re 81 rfl (congrArg vi (wr_succ' hl908 hc908)) ?_
                    exact Run.sub (by exact subB_spec ⟨rfl, rfl, rfl, rfl, rfl, rfl, rfl, rfl, rfl, trivial⟩) (Run.stop ⟨y906.length - (i908 + 1), by omega, i908 + 1, x971, l974, A974, c974, d974, z970, rfl, by omega, (hnxb908 _).symm.trans hf, rfl, hy972_3, hy972_0, hy972_1, hy972_2, f974, (St.forget (St.forget hst975 2) 1)⟩)
                  · replace hf := ifF (dec_F hc) hf
                    refine Run.skip ?_
                    refine Run.endBlk ?_
                    refine Run.region ?_
                    refine Ops.ex (Ex.add rfl rfl) rfl rfl rfl ?_
                    refine Ops.ex (Ex.move rfl) rfl rfl rfl ?_
                    refine Ops.nil ?_
                    refine Run.re 81 rfl (congrArg vi (wr_succ' hl908 hc908)) ?_
                    exact Run.sub (by exact subB_spec ⟨rfl, rfl, rfl, rfl, rfl, rfl, rfl, rfl, rfl, trivial⟩) (Run.stop ⟨y906.length - (i908 + 1), by omega, i908 + 1, x956, l957, A957, c957, d957, z970, rfl, by omega, (hnxb908 _).symm.trans hf, rfl, hy972_3, hy972_0, hy972_1, hy972_2, f957, (St.forget hst972 1)⟩)
                · replace hf := ifF (dec_F hc) hf
                  refine Ops.off rfl rfl ?_
                  refine Ops.off rfl rfl ?_
                  refine Ops.off rfl rfl ?_
                  refine Ops.ex (Ex.pickF rfl rfl) rfl rfl rfl ?_
                  refine Ops.nil ?_
                  refine Run.condF rfl rfl ?_
                  refine Run.skip ?_
                  refine Run.endBlk ?_
                  refine Run.region ?_
                  refine Ops.ex (Ex.add rfl rfl) rfl rfl rfl ?_
                  refine Ops.ex (Ex.move rfl) rfl rfl rfl ?_
                  refine Ops.nil ?_
                  refine Run.re 81 rfl (congrArg vi (wr_succ' hl908 hc908)) ?_
                  exact Run.sub (by exact subB_spec ⟨rfl, rfl, rfl, rfl, rfl, rfl, rfl, rfl, rfl, trivial⟩) (Run.stop ⟨y906.length - (i908 + 1), by omega, i908 + 1, x956, l957, A957, c957, d957, z970, rfl, by omega, (hnxb908 _).symm.trans hf, rfl, hy972_3, hy972_0, hy972_1, hy972_2, f957, (St.forget hst972 1)⟩)
              · replace hf := ifF (dec_F hc) hf
                refine Ops.off rfl rfl ?_
                refine Ops.off rfl rfl ?_
                refine Ops.off rfl rfl ?_
                refine Ops.off rfl rfl ?_
                refine Ops.ex (Ex.pickF rfl rfl) rfl rfl rfl ?_
                refine Ops.ex (Ex.move rfl) rfl rfl rfl ?_
                refine Ops.off rfl rfl ?_
                refine Ops.off rfl rfl ?_
                refine Ops.off rfl rfl ?_
                refine Ops.ex (Ex.pickF rfl rfl) rfl rfl rfl ?_
                refine Ops.nil ?_
                refine Run.condF rfl rfl ?_
                refine Run.skip ?_
                refine Run.endBlk ?_
                refine Run.region ?_
                refine Ops.ex (Ex.add rfl rfl) rfl rfl rfl ?_
                refine Ops.ex (Ex.move rfl) rfl rfl rfl ?_
                refine Ops.nil ?_
                refine Run.re 81 rfl (congrArg vi (wr_succ' hl908 hc908)) ?_
                exact Run.sub (by exact subB_spec ⟨rfl, rfl, rfl, rfl, rfl, rfl, rfl, rfl, rfl, trivial⟩) (Run.stop ⟨y906.length - (i908 + 1), by omega, i908 + 1, x956, l957, A957, c957, d957, z970, rfl, by omega, (hnxb908 _).symm.trans hf, rfl, hy972_3, hy972_0, hy972_1, hy972_2, f957, (St.forget hst972 1)⟩)
          · replace hf := forL_out hf (nlt_of_dec hc)
            try dsimp only at hf
            refine Run.exit _ rfl ?_
            refine Run.seq ?_
            refine Run.seq ?_
            refine Run.region ?_
            refine Ops.ex (Ex.move rfl) rfl rfl rfl ?_
            refine Ops.ex (Ex.move rfl) rfl rfl rfl ?_
            refine Ops.ex (Ex.lss rfl rfl) rfl rfl rfl ?_
            refine Ops.nil ?_
            refine Run.cond rfl (fun hc => ?_) (fun hc => ?_)
            · replace hf := ifT (dec_T hc) hf
              refine Run.seq ?_
              refine Run.region ?_
              refine Ops.ex (Ex.build [.pointer none, .slice none 0 0, .slice none 0 0] rfl Try.underlying31 zr31 (pl31 Try.underlying31) (by kernel_rfl)) rfl rfl rfl ?_
              refine Ops.store 4 [.pointer none, .slice none 0 0, .slice none 0 0] hst960 rfl rfl rfl rfl sz31 rfl (by simp [Value.oneCell']) (by simp) (fun w976 hst976 => ?_)
              refine Ops.ex (Ex.assign rfl) rfl rfl rfl ?_
              refine Ops.nil ?_
              obtain rfl := Option.some.inj hf
              exact Run.retV [.agg #[.pointer none, .slice none 0 0, .slice none 0 0], vi 9] rfl ⟨⟨_, rfl, run_loadN _ Try.underlying31 rfl sz31 rfl (hst976.cells (i := 4) rfl 0 3)⟩, rfl, trivial⟩ ⟨z955, none, none, 0, none, 0, rfl, hy960_0, (Pp.nil _ _), (Sl.nil _ _), (Sl.nil _ _), (St.forget (St.forget (St.forget (St.forget hst976 4) 3) 2) 1)⟩
            · replace hf := ifF (dec_F hc) hf
              refine Run.skip ?_
              refine Run.seq ?_
              refine Run.region ?_
              refine Ops.loadAgg _ rfl Try.underlying31 rfl sz31 rfl (hst960.cells (i := 3) rfl 0 3) rfl ?_
              refine Ops.store 4 [.pointer A658, .slice A856 l856.length c856, .slice A957 l957.length c957] hst960 rfl rfl rfl rfl sz31 rfl (by simp [Value.oneCell']) (by simp) (fun w977 hst977 => ?_)
              refine Ops.ex (Ex.assign rfl) rfl rfl rfl ?_
              refine Ops.nil ?_
              obtain ⟨z978, hz978, f978, hst978⟩ := St.freeze (τ := tapiRef) (xs := l856) (St.up (St.up (St.up (St.up (St.up hst977 4 rfl) 4 rfl) 3 rfl) 4 rfl) 4 rfl) f856 rfl
              replace f907 := f907.mono hz978; replace f658 := f658.mono hz978; replace f957 := f957.mono hz978
              replace hy960_0 := hy960_0.trans hz978
              replace hy960_1 := hy960_1.trans hz978
              replace hy960_2 := hy960_2.trans hz978
              replace hz960 := hz960.trans hz978
              obtain ⟨z979, hz979, f979, hst979⟩ := St.freeze (τ := tapiRef) (xs := l957) hst978 f957 rfl
              replace f907 := f907.mono hz979; replace f658 := f658.mono hz979; replace f978 := f978.mono hz979
              replace hy960_0 := hy960_0.trans hz979
              replace hy960_1 := hy960_1.trans hz979
              replace hy960_2 := hy960_2.trans hz979
              replace hz960 := hz960.trans hz979
              obtain rfl := Option.some.inj hf
              exact Run.retV [.agg #[.pointer A658, .slice A856 l856.length c856, .slice A957 l957.length c957], vi 0] rfl ⟨⟨_, rfl, run_loadN _ Try.underlying31 rfl sz31 rfl (hst979.cells (i := 2) rfl 0 3)⟩, rfl, trivial⟩ ⟨z979, A658, A856, c856, A957, c957, rfl, hy960_0, f658, f978, f979, (St.forget (St.forget hst979 2) 1)⟩
def go_plan_Pair.b2 (a8 : apiRef) (i123 : Nat) (a123 : apiRef) : Unit → (Unit → Option (apiRef × apiRef × Bool)) → Option (apiRef × apiRef × Bool) :=
  fun _ nxb123 => if a8.To = a123.From then (if a8 = a123 then (nxb123 ()) else (if a123.From < a123.To then (some (a8, a123, true)) else (nxb123 ()))) else (nxb123 ())
def go_plan_Pair.b1 (y6 : List apiRef) (i8 : Nat) (a8 : apiRef) : Unit → (Unit → Option (apiRef × apiRef × Bool)) → Option (apiRef × apiRef × Bool) :=
  fun _ nxb8 => forL (go_plan_Pair.b2 a8) (fun _ => nxb8 ()) 0 y6 ()
def go_plan_Pair (p0 : editsSet) : Option (apiRef × apiRef × Bool) :=
  (go_plan_kind p0 1).bind fun y6 => forL (go_plan_Pair.b1 y6) (fun _ => some ((⟨[], 0, 0, 0⟩ : apiRef), (⟨[], 0, 0, 0⟩ : apiRef), false)) 0 y6 ()
set_option maxRecDepth 100000 in
set_option maxHeartbeats 4000000 in
theorem go_plan_Pair.walk {w0 w : World} {X : List Res} {z0 : Zp} {p0 : editsSet} {A1 : Option Addr} {c1 : Nat} {r : apiRef × apiRef × Bool} (hst : Ht w0 (frz z0 :: X) w) (f1 : Sl tapiRef z0 A1 c1 p0.Refs) (hf : go_plan_Pair p0 = some r) :
    Calls Try.prog 16 #[.agg #[.slice A1 p0.Refs.length c1, vi p0.Floor]] w fun e w' => ∃ (z' : Zp), e = .returned (.tuple #[.agg #[vs r.1.Name, vi r.1.Kind, vi r.1.From, vi r.1.To], .agg #[vs r.2.1.Name, vi r.2.1.Kind, vi r.2.1.From, vi r.2.1.To], vb r.2.2]) ∧ Le z0 z' ∧ Ht w0 (frz z' :: X) w' := by
  refine calls_np Try.func16 rfl rfl ?_
  have hle0 := Le.refl z0
  unfold go_plan_Pair at hf
  refine Run.seq ?_
  refine Run.region ?_
  refine Ops.boxF [.slice A1 p0.Refs.length c1, vi p0.Floor] hst rfl rfl rfl (fun g3 w3 hst3 => ?_)
  refine Ops.allocF [vs [], vi 0, vi 0, vi 0] hst3 zr37 rfl rfl (fun g4 w4 hst4 => ?_)
  refine Ops.allocF [vs [], vi 0, vi 0, vi 0] hst4 zr37 rfl rfl (fun g5 w5 hst5 => ?_)
  refine Ops.ex (Ex.assign rfl) rfl rfl rfl ?_
  refine Ops.nil ?_
  refine Run.seq ?_
  refine Run.region ?_
  refine Ops.loadAgg _ rfl Try.underlying27 rfl sz27 rfl (hst5.cells (i := 3) rfl 0 2) rfl ?_
  obtain ⟨y6, hy6, hf⟩ := bnd hf
  refine Ops.call rfl rfl Try.func19 (by kernel_rfl) (by kernel_rfl) rfl (go_plan_kind.walk (p0 := p0) (p1 := 1) (hst := hst5) (f1 := f1) (hf := hy6)) ?_
  rintro _ w6 ⟨z6, A7, c7, rfl, hz6, f7, hst6⟩
  refine ⟨_, rfl, ?_⟩
  replace f1 := f1.mono hz6
  replace hle0 := hle0.trans hz6
  refine Ops.ex (Ex.assign rfl) rfl rfl rfl ?_
  refine Ops.nil ?_
  refine Run.seq ?_
  refine Run.seq ?_
  refine Run.region ?_
  refine Ops.ex (Ex.move rfl) rfl rfl rfl ?_
  refine Ops.ex (Ex.len' rfl rfl rfl Try.underlying25) rfl rfl rfl ?_
  refine Ops.ex (Ex.move rfl) rfl rfl rfl ?_
  refine Ops.nil ?_
  refine Run.block ?_
  have hc8 := f7.cap
  have hm9 := Le.refl z6
  refine Run.sub (e' := [(2, .pointer (some ⟨g4, 0, none⟩)), (3, .pointer (some ⟨g5, 0, none⟩)), (5, .slice A7 y6.length c7), (12, .slice A7 y6.length c7), (13, vi (y6.length : Int)), (14, vi ((0 : Nat) : Int))]) (subB_spec ⟨rfl, rfl, rfl, rfl, rfl, rfl, trivial⟩) ?_
  refine Run.loop (fun mb8 => (fun e' w' => ∃ (i8 : Nat) (z114 : Zp), mb8 = y6.length - i8 ∧ i8 ≤ y6.length ∧ forL (go_plan_Pair.b1 y6) (fun _ => some ((⟨[], 0, 0, 0⟩ : apiRef), (⟨[], 0, 0, 0⟩ : apiRef), false)) i8 (y6.drop i8) () = some r ∧ e' = [(2, .pointer (some ⟨g4, 0, none⟩)), (3, .pointer (some ⟨g5, 0, none⟩)), (5, .slice A7 y6.length c7), (12, .slice A7 y6.length c7), (13, vi (y6.length : Int)), (14, vi (i8 : Int))] ∧ Le z6 z114 ∧ Le z0 z114 ∧ Ht w0 (frz z114 :: (blk g5 [vs [], vi 0, vi 0, vi 0] 37) :: (blk g4 [vs [], vi 0, vi 0, vi 0] 37) :: X) w')) y6.length ⟨0, z6, rfl, Nat.zero_le _, hf, rfl, hm9, hle0, (St.forget hst6 3)⟩ ?_
  rintro _ e' w115 ⟨i8, z114, rfl, hi8, hf, rfl, hz115, hy115_0, hst115⟩
  replace f7 := f7.mono hz115
  refine Run.seq ?_
  refine Run.region ?_
  refine Ops.ex (Ex.lss rfl rfl) rfl rfl rfl ?_
  refine Ops.nil ?_
  refine Run.seq ?_
  refine Run.cond rfl (fun hc => ?_) (fun hc => ?_)
  · have hl8 := lt_of_dec hc
    obtain ⟨a8, nxb8, ha8, hnxb8, hf⟩ := forL_in hf hl8
    unfold go_plan_Pair.b1 at hf
    try dsimp only at hf
    refine Run.skip ?_
    refine Run.seq ?_
    refine Run.block ?_
    refine Run.seq ?_
    refine Run.region ?_
    obtain ⟨g120, p120, o120, cs120, hA120, ho120, hr120, f120⟩ := SlH.elem f7.toH (atI_nat ha8)
    obtain rfl := hr120
    refine Ops.ex (Ex.ixA hA120 ho120 (atI_nat ha8) rfl rfl rfl Try.underlying25 sz37) rfl rfl rfl ?_
    refine Ops.loadAgg [vs a8.Name, vi a8.Kind, vi a8.From, vi a8.To] rfl Try.underlying37 rfl sz37 rfl (cells_of_zc rfl (f120.mono hst115.le)) rfl ?_
    refine Ops.allocF [vs [], vi 0, vi 0, vi 0] hst115 zr37 rfl rfl (fun g121 w121 hst121 => ?_)
    refine Ops.store 1 [vs a8.Name, vi a8.Kind, vi a8.From, vi a8.To] hst121 rfl rfl rfl rfl sz37 rfl (by simp [Value.oneCell']) (by simp) (fun w122 hst122 => ?_)
    refine Ops.nil ?_
    refine Run.seq ?_
    refine Run.region ?_
    refine Ops.ex (Ex.move rfl) rfl rfl rfl ?_
    refine Ops.ex (Ex.len' rfl rfl rfl Try.underlying25) rfl rfl rfl ?_
    refine Ops.ex (Ex.move rfl) rfl rfl rfl ?_
    refine Ops.nil ?_
    refine Run.block ?_
    have hc123 := f7.cap
    have hm124 := Le.refl z114
    refine Run.sub (e' := [(2, .pointer (some ⟨g4, 0, none⟩)), (3, .pointer (some ⟨g5, 0, none⟩)), (5, .slice A7 y6.length c7), (7, .pointer (some ⟨g121, 0, none⟩)), (12, .slice A7 y6.length c7), (13, vi (y6.length : Int)), (14, vi (i8 : Int)), (18, .slice A7 y6.length c7), (19, vi (y6.length : Int)), (20, vi ((0 : Nat) : Int))]) (subB_spec ⟨rfl, rfl, rfl, rfl, rfl, rfl, rfl, rfl, rfl, rfl, trivial⟩) ?_
    refine Run.loop (fun mb123 => (fun e' w' => ∃ (i123 : Nat) (z151 : Zp), mb123 = y6.length - i123 ∧ i123 ≤ y6.length ∧ forL (go_plan_Pair.b2 a8) (fun _ => nxb8 ()) i123 (y6.drop i123) () = some r ∧ e' = [(2, .pointer (some ⟨g4, 0, none⟩)), (3, .pointer (some ⟨g5, 0, none⟩)), (5, .slice A7 y6.length c7), (7, .pointer (some ⟨g121, 0, none⟩)), (12, .slice A7 y6.length c7), (13, vi (y6.length : Int)), (14, vi (i8 : Int)), (18, .slice A7 y6.length c7), (19, vi (y6.length : Int)), (20, vi (i123 : Int))] ∧ Le z114 z151 ∧ Le z0 z151 ∧ Le z6 z151 ∧ Ht w0 (frz z151 :: (blk g121 [vs a8.Name, vi a8.Kind, vi a8.From, vi a8.To] 37) :: (blk g5 [vs [], vi 0, vi 0, vi 0] 37) :: (blk g4 [vs [], vi 0, vi 0, vi 0] 37) :: X) w')) y6.length ⟨0, z114, rfl, Nat.zero_le _, hf, rfl, hm124, hy115_0, hz115, hst122⟩ ?_
    rintro _ e' w152 ⟨i123, z151, rfl, hi123, hf, rfl, hz152, hy152_0, hy152_1, hst152⟩
    replace f7 := f7.mono hz152
    refine Run.seq ?_
    refine Run.region ?_
    refine Ops.ex (Ex.lss rfl rfl) rfl rfl rfl ?_
    refine Ops.nil ?_
    refine Run.seq ?_
    refine Run.cond rfl (fun hc => ?_) (fun hc => ?_)
    · have hl123 := lt_of_dec hc
      obtain ⟨a123, nxb123, ha123, hnxb123, hf⟩ := forL_in hf hl123
      unfold go_plan_Pair.b2 at hf
      try dsimp only at hf
      refine Run.skip ?_
      refine Run.seq ?_
      refine Run.block ?_
      refine Run.seq ?_
      refine Run.region ?_
      obtain ⟨g157, p157, o157, cs157, hA157, ho157, hr157, f157⟩ := SlH.elem f7.toH (atI_nat ha123)
      obtain rfl := hr157
      refine Ops.ex (Ex.ixA hA157 ho157 (atI_nat ha123) rfl rfl rfl Try.underlying25 sz37) rfl rfl rfl ?_
      refine Ops.loadAgg [vs a123.Name, vi a123.Kind, vi a123.From, vi a123.To] rfl Try.underlying37 rfl sz37 rfl (cells_of_zc rfl (f157.mono hst152.le)) rfl ?_
      refine Ops.allocF [vs [], vi 0, vi 0, vi 0] hst152 zr37 rfl rfl (fun g158 w158 hst158 => ?_)
      refine Ops.store 1 [vs a123.Name, vi a123.Kind, vi a123.From, vi a123.To] hst158 rfl rfl rfl rfl sz37 rfl (by simp [Value.oneCell']) (by simp) (fun w159 hst159 => ?_)
      refine Ops.nil ?_
      refine Run.seq ?_
      refine Run.region ?_
      refine Ops.ex (Ex.fieldAddr rfl Try.underlying37 rfl sz3) rfl rfl rfl ?_
      refine Ops.load rfl Try.underlying3 rfl (hst159.cell (i := 2) rfl rfl) rfl ?_
      refine Ops.ex (Ex.fieldAddr rfl Try.underlying37 rfl sz3) rfl rfl rfl ?_
      refine Ops.load rfl Try.underlying3 rfl (hst159.cell (i := 1) rfl rfl) rfl ?_
      refine Ops.ex (Ex.eqlI rfl rfl) rfl rfl rfl ?_
      refine Ops.ex (Ex.move rfl) rfl rfl rfl ?_
      refine Ops.case 29 rfl (fun hc => ?_) (fun hc => ?_)
      · replace hf := ifT (dec_T hc) hf
        refine Ops.on rfl ?_
        refine Ops.loadAgg _ rfl Try.underlying37 rfl sz37 rfl (hst159.cells (i := 2) rfl 0 4) rfl ?_
        refine Ops.on rfl ?_
        refine Ops.loadAgg _ rfl Try.underlying37 rfl sz37 rfl (hst159.cells (i := 1) rfl 0 4) rfl ?_
        refine Ops.on rfl ?_
        refine Ops.ex (Ex.neqV rfl rfl (eqv37 9998 a8 a123) (by kernel_rfl)) rfl rfl rfl ?_
        refine Ops.ex (Ex.pickT rfl rfl) rfl rfl rfl ?_
        refine Ops.ex (Ex.move rfl) rfl rfl rfl ?_
        refine Ops.case 34 rfl (fun hc => ?_) (fun hc => ?_)
        · replace hf := ifF (neq_T hc) hf
          refine Ops.on rfl ?_
          refine Ops.ex (Ex.fieldAddr rfl Try.underlying37 rfl sz3) rfl rfl rfl ?_
          refine Ops.on rfl ?_
          refine Ops.load rfl Try.underlying3 rfl (hst159.cell (i := 1) rfl rfl) rfl ?_
          refine Ops.on rfl ?_
          refine Ops.ex (Ex.fieldAddr rfl Try.underlying37 rfl sz3) rfl rfl rfl ?_
          refine Ops.on rfl ?_
          refine Ops.load rfl Try.underlying3 rfl (hst159.cell (i := 1) rfl rfl) rfl ?_
          refine Ops.on rfl ?_
          refine Ops.ex (Ex.gtr rfl rfl) rfl rfl rfl ?_
          refine Ops.ex (Ex.pickT rfl rfl) rfl rfl rfl ?_
          refine Ops.nil ?_
          refine Run.cond rfl (fun hc => ?_) (fun hc => ?_)
          · replace hf := ifT (dec_T hc) hf
            refine Run.seq ?_
            have hm161 := Le.refl z151
            refine Run.drawH [([], fun w => ∃ ζ Y, Le z151 ζ ∧ Ht w0 (frz ζ :: (blk g158 [vs a123.Name, vi a123.Kind, vi a123.From, vi a123.To] 37) :: (blk g121 [vs a8.Name, vi a8.Kind, vi a8.From, vi a8.To] 37) :: Y) w), ([2, 3], fun w => ∃ ζ Y, Le z151 ζ ∧ Ht w0 (frz ζ :: (blk g4 [vs [], vi 0, vi 0, vi 0] 37) :: Y) w), ([3], fun w => ∃ ζ Y, Le z151 ζ ∧ Ht w0 (frz ζ :: (blk g5 [vs [], vi 0, vi 0, vi 0] 37) :: Y) w)] (by kernel_rfl) hst159 (fun w160 hst160 => ?_)
            have hS0 := (⟨_, _, (Le.refl _), (St.up (St.up (St.up hst160 2 rfl) 2 rfl) 2 rfl)⟩ : (fun w => ∃ ζ Y, Le z151 ζ ∧ Ht w0 (frz ζ :: (blk g158 [vs a123.Name, vi a123.Kind, vi a123.From, vi a123.To] 37) :: (blk g121 [vs a8.Name, vi a8.Kind, vi a8.From, vi a8.To] 37) :: Y) w) _)
            have hS1 := (⟨_, _, (Le.refl _), (St.up (St.up hst160 4 rfl) 1 rfl)⟩ : (fun w => ∃ ζ Y, Le z151 ζ ∧ Ht w0 (frz ζ :: (blk g4 [vs [], vi 0, vi 0, vi 0] 37) :: Y) w) _)
            have hS2 := (⟨_, _, (Le.refl _), (St.up (St.up hst160 3 rfl) 1 rfl)⟩ : (fun w => ∃ ζ Y, Le z151 ζ ∧ Ht w0 (frz ζ :: (blk g5 [vs [], vi 0, vi 0, vi 0] 37) :: Y) w) _)
            refine Any.take 0 0 rfl rfl rfl rfl rfl (by kernel_rfl) (fun _ _ _ _ _ h => h) (ExS.loadAgg [vs a8.Name, vi a8.Kind, vi a8.From, vi a8.To] rfl Try.underlying37 rfl sz37 rfl (fun w hS => by obtain ⟨_, _, _, hs⟩ := hS; exact hs.cells (i := 2) rfl 0 4)) hS0 ?_
            refine Any.take 0 1 rfl rfl rfl rfl rfl (by kernel_rfl) (fun _ _ _ _ _ h => h) (ExS.loadAgg [vs a123.Name, vi a123.Kind, vi a123.From, vi a123.To] rfl Try.underlying37 rfl sz37 rfl (fun w hS => by obtain ⟨_, _, _, hs⟩ := hS; exact hs.cells (i := 1) rfl 0 4)) hS0 ?_
            refine Any.one 2 (by kernel_rfl) rfl rfl (One.of_ops rfl ?_)
            refine Ops.store 4 [vs a8.Name, vi a8.Kind, vi a8.From, vi a8.To] hst160 rfl rfl rfl rfl sz37 rfl (by simp [Value.oneCell']) (by simp) (fun w162 hst162 => Ops.stop ?_)
            have hS0 := (⟨_, _, (Le.refl _), (St.up (St.up (St.up hst162 2 rfl) 2 rfl) 2 rfl)⟩ : (fun w => ∃ ζ Y, Le z151 ζ ∧ Ht w0 (frz ζ :: (blk g158 [vs a123.Name, vi a123.Kind, vi a123.From, vi a123.To] 37) :: (blk g121 [vs a8.Name, vi a8.Kind, vi a8.From, vi a8.To] 37) :: Y) w) _)
            have hS2 := (⟨_, _, (Le.refl _), (St.up (St.up hst162 3 rfl) 1 rfl)⟩ : (fun w => ∃ ζ Y, Le z151 ζ ∧ Ht w0 (frz ζ :: (blk g5 [vs [], vi 0, vi 0, vi 0] 37) :: Y) w) _)
            refine ⟨⟨.inr (fun _ => hS0), .inl (by decide), .inr (fun _ => hS2), trivial⟩, ?_⟩
            refine Any.one 3 (by kernel_rfl) rfl rfl (One.of_ops rfl ?_)
            refine Ops.store 3 [vs a123.Name, vi a123.Kind, vi a123.From, vi a123.To] hst162 rfl rfl rfl rfl sz37 rfl (by simp [Value.oneCell']) (by simp) (fun w163 hst163 => Ops.stop ?_)
            have hS0 := (⟨_, _, (Le.refl _), (St.up (St.up (St.up hst163 2 rfl) 2 rfl) 2 rfl)⟩ : (fun w => ∃ ζ Y, Le z151 ζ ∧ Ht w0 (frz ζ :: (blk g158 [vs a123.Name, vi a123.Kind, vi a123.From, vi a123.To] 37) :: (blk g121 [vs a8.Name, vi a8.Kind, vi a8.From, vi a8.To] 37) :: Y) w) _)
            refine ⟨⟨.inr (fun _ => hS0), .inl (by decide), .inl (by decide), trivial⟩, ?_⟩
            refine Any.takeE 4 rfl rfl rfl rfl (by kernel_rfl) (fun _ _ _ _ _ h => h) ((Ex.assign rfl).s) ?_
            refine Any.done (by kernel_rfl) ?_
            obtain rfl := Option.some.inj hf
            exact Run.retV [.agg #[vs a8.Name, vi a8.Kind, vi a8.From, vi a8.To], .agg #[vs a123.Name, vi a123.Kind, vi a123.From, vi a123.To], vb true] rfl ⟨⟨_, rfl, run_loadN _ Try.underlying37 rfl sz37 rfl (hst163.cells (i := 4) rfl 0 4)⟩, ⟨_, rfl, run_loadN _ Try.underlying37 rfl sz37 rfl (hst163.cells (i := 3) rfl 0 4)⟩, rfl, trivial⟩ ⟨z151, rfl, hy152_0, (St.forget (St.forget (St.forget (St.forget hst163 4) 3) 2) 1)⟩
          · replace hf := ifF (dec_F hc) hf
            refine Run.skip ?_
            refine Run.endBlk ?_
            refine Run.region ?_
            refine Ops.ex (Ex.add rfl rfl) rfl rfl rfl ?_
            refine Ops.ex (Ex.move rfl) rfl rfl rfl ?_
            refine Ops.nil ?_
            refine Run.re 20 rfl (congrArg vi (wr_succ' hl123 hc123)) ?_
            exact Run.sub (by exact subB_spec ⟨rfl, rfl, rfl, rfl, rfl, rfl, rfl, rfl, rfl, rfl, trivial⟩) (Run.stop ⟨y6.length - (i123 + 1), by omega, i123 + 1, z151, rfl, by omega, (hnxb123 _).symm.trans hf, rfl, hz152, hy152_0, hy152_1, (St.forget hst159 1)⟩)
        · replace hf := ifT (neq_F hc) hf
          refine Ops.off rfl rfl ?_
          refine Ops.off rfl rfl ?_
          refine Ops.off rfl rfl ?_
          refine Ops.off rfl rfl ?_
          refine Ops.off rfl rfl ?_
          refine Ops.ex (Ex.pickF rfl rfl) rfl rfl rfl ?_
          refine Ops.nil ?_
          refine Run.condF rfl rfl ?_
          refine Run.skip ?_
          refine Run.endBlk ?_
          refine Run.region ?_
          refine Ops.ex (Ex.add rfl rfl) rfl rfl rfl ?_
          refine Ops.ex (Ex.move rfl) rfl rfl rfl ?_
          refine Ops.nil ?_
          refine Run.re 20 rfl (congrArg vi (wr_succ' hl123 hc123)) ?_
          exact Run.sub (by exact subB_spec ⟨rfl, rfl, rfl, rfl, rfl, rfl, rfl, rfl, rfl, rfl, trivial⟩) (Run.stop ⟨y6.length - (i123 + 1), by omega, i123 + 1, z151, rfl, by omega, (hnxb123 _).symm.trans hf, rfl, hz152, hy152_0, hy152_1, (St.forget hst159 1)⟩)
      · replace hf := ifF (dec_F hc) hf
        refine Ops.off rfl rfl ?_
        refine Ops.off rfl rfl ?_
        refine Ops.off rfl rfl ?_
        refine Ops.ex (Ex.pickF rfl rfl) rfl rfl rfl ?_
        refine Ops.ex (Ex.move rfl) rfl rfl rfl ?_
        refine Ops.off rfl rfl ?_
        refine Ops.off rfl rfl ?_
        refine Ops.off rfl rfl ?_
        refine Ops.off rfl rfl ?_
        refine Ops.off rfl rfl ?_
        refine Ops.ex (Ex.pickF rfl rfl) rfl rfl rfl ?_
        refine Ops.nil ?_
        refine Run.condF rfl rfl ?_
        refine Run.skip ?_
        refine Run.endBlk ?_
        refine Run.region ?_
        refine Ops.ex (Ex.add rfl rfl) rfl rfl rfl ?_
        refine Ops.ex (Ex.move rfl) rfl rfl rfl ?_
        refine Ops.nil ?_
        refine Run.re 20 rfl (congrArg vi (wr_succ' hl123 hc123)) ?_
        exact Run.sub (by exact subB_spec ⟨rfl, rfl, rfl, rfl, rfl, rfl, rfl, rfl, rfl, rfl, trivial⟩) (Run.stop ⟨y6.length - (i123 + 1), by omega, i123 + 1, z151, rfl, by omega, (hnxb123 _).symm.trans hf, rfl, hz152, hy152_0, hy152_1, (St.forget hst159 1)⟩)
    · replace hf := forL_out hf (nlt_of_dec hc)
      try dsimp only at hf
      refine Run.exit _ rfl ?_
      refine Run.endBlk ?_
      refine Run.region ?_
      refine Ops.ex (Ex.add rfl rfl) rfl rfl rfl ?_
      refine Ops.ex (Ex.move rfl) rfl rfl rfl ?_
      refine Ops.nil ?_
      refine Run.re 14 rfl (congrArg vi (wr_succ' hl8 hc8)) ?_
      exact Run.sub (by exact subB_spec ⟨rfl, rfl, rfl, rfl, rfl, rfl, trivial⟩) (Run.stop ⟨y6.length - (i8 + 1), by omega, i8 + 1, z151, rfl, by omega, (hnxb8 _).symm.trans hf, rfl, hy152_1, hy152_0, (St.forget hst152 1)⟩)
  · replace hf := forL_out hf (nlt_of_dec hc)
    try dsimp only at hf
    refine Run.exit _ rfl ?_
    refine Run.seq ?_
    refine Run.region ?_
    refine Ops.ex (Ex.build [vs [], vi 0, vi 0, vi 0] rfl Try.underlying37 zr37 (pl37 Try.underlying37) (by kernel_rfl)) rfl rfl rfl ?_
    refine Ops.ex (Ex.build [vs [], vi 0, vi 0, vi 0] rfl Try.underlying37 zr37 (pl37 Try.underlying37) (by kernel_rfl)) rfl rfl rfl ?_
    refine Ops.store 2 [vs [], vi 0, vi 0, vi 0] hst115 rfl rfl rfl rfl sz37 rfl (by simp [Value.oneCell']) (by simp) (fun w164 hst164 => ?_)
    refine Ops.store 1 [vs [], vi 0, vi 0, vi 0] hst164 rfl rfl rfl rfl sz37 rfl (by simp [Value.oneCell']) (by simp) (fun w165 hst165 => ?_)
    refine Ops.ex (Ex.assign rfl) rfl rfl rfl ?_
    refine Ops.nil ?_
    obtain rfl := Option.some.inj hf
    exact Run.retV [.agg #[vs [], vi 0, vi 0, vi 0], .agg #[vs [], vi 0, vi 0, vi 0], vb false] rfl ⟨⟨_, rfl, run_loadN _ Try.underlying37 rfl sz37 rfl (hst165.cells (i := 2) rfl 0 4)⟩, ⟨_, rfl, run_loadN _ Try.underlying37 rfl sz37 rfl (hst165.cells (i := 1) rfl 0 4)⟩, rfl, trivial⟩ ⟨z114, rfl, hy115_0, (St.forget (St.forget hst165 2) 1)⟩
def go_plan_Unneeded.j2 (l356 : List Str) (a277 : apiRef) (nxb277 : (List Str) → Option (List Str)) (b390 : Bool) : Option (List Str) :=
  if b390 then ((apB 16 l356 [a277.Name]).bind fun l393 => nxb277 l393) else (nxb277 l356)
def go_plan_Unneeded.j1 (x266 : Int) (l356 : List Str) (a277 : apiRef) (nxb277 : (List Str) → Option (List Str)) (b378 : Bool) : Option (List Str) :=
  if a277.Kind = 0 then (if a277.To < x266 then (go_plan_Unneeded.j2 l356 a277 nxb277 true) else (if a277.Kind = 0 then (go_plan_Unneeded.j2 l356 a277 nxb277 false) else (if a277.To ≤ x266 then (if a277.From < x266 then (go_plan_Unneeded.j2 l356 a277 nxb277 (!b378)) else (go_plan_Unneeded.j2 l356 a277 nxb277 false)) else (go_plan_Unneeded.j2 l356 a277 nxb277 false)))) else (if a277.Kind = 0 then (go_plan_Unneeded.j2 l356 a277 nxb277 false) else (if a277.To ≤ x266 then (if a277.From < x266 then (go_plan_Unneeded.j2 l356 a277 nxb277 (!b378)) else (go_plan_Unneeded.j2 l356 a277 nxb277 false)) else (go_plan_Unneeded.j2 l356 a277 nxb277 false)))
def go_plan_Unneeded.b2 (x266 : Int) (y275 : List apiRef) (i277 : Nat) (a277 : apiRef) : (List Str) → (List Str → Option (List Str)) → Option (List Str) :=
  fun l356 nxb277 => if 0 < (y275.length : Int) then ((atI y275 (wr ((y275.length : Int) - 1))).bind fun y380 => go_plan_Unneeded.j1 x266 l356 a277 nxb277 (decide (a277 = y380))) else (go_plan_Unneeded.j1 x266 l356 a277 nxb277 false)
def go_plan_Unneeded.b1 (p1 : Int) (i5 : Nat) (a5 : apiRef) : Int → (Int → Option (List Str)) → Option (List Str) :=
  fun x266 nxb5 => if a5.Kind = 0 then (if a5.To ≤ p1 then (nxb5 (max x266 a5.To)) else (nxb5 x266)) else (nxb5 x266)
def go_plan_Unneeded (p0 : editsSet) (p1 : Int) : Option (List Str) :=
  forL (go_plan_Unneeded.b1 p1) (fun x266 => (go_plan_kind p0 2).bind fun y275 => forL (go_plan_Unneeded.b2 x266 y275) (fun l356 => some l356) 0 p0.Refs []) 0 p0.Refs (-1)
set_option maxRecDepth 100000 in
set_option maxHeartbeats 4000000 in
theorem go_plan_Unneeded.walk {w0 w : World} {X : List Res} {z0 : Zp} {p0 : editsSet} {A1 : Option Addr} {c1 : Nat} {p1 : Int} {r : List Str} (hst : Ht w0 (frz z0 :: X) w) (f1 : Sl tapiRef z0 A1 c1 p0.Refs) (hf : go_plan_Unneeded p0 p1 = some r) :
    Calls Try.prog 17 #[.agg #[.slice A1 p0.Refs.length c1, vi p0.Floor], vi p1] w fun e w' => ∃ (z' : Zp) (A9001 : Option Addr) (c9001 : Nat), e = .returned (.slice A9001 r.length c9001) ∧ Le z0 z' ∧ Sl tS z' A9001 c9001 r ∧ Ht w0 (frz z' :: X) w' := by
  refine calls_np Try.func17 rfl rfl ?_
  have hle0 := Le.refl z0
  unfold go_plan_Unneeded at hf
  refine Run.seq ?_
  refine Run.region ?_
  refine Ops.boxF [.slice A1 p0.Refs.length c1, vi p0.Floor] hst rfl rfl rfl (fun g4 w4 hst4 => ?_)
  refine Ops.ex (Ex.assign rfl) rfl rfl rfl ?_
  refine Ops.nil ?_
  refine Run.seq ?_
  refine Run.region ?_
  refine Ops.ex (Ex.assign rfl) rfl rfl rfl ?_
  refine Ops.nil ?_
  refine Run.seq ?_
  refine Run.seq ?_
  refine Run.region ?_
  refine Ops.ex (Ex.fieldAddr rfl Try.underlying27 rfl sz25) rfl rfl rfl ?_
  refine Ops.load rfl Try.underlying25 rfl (hst4.cell (i := 1) rfl rfl) rfl ?_
  refine Ops.ex (Ex.len' rfl rfl rfl Try.underlying25) rfl rfl rfl ?_
  refine Ops.ex (Ex.move rfl) rfl rfl rfl ?_
  refine Ops.nil ?_
  refine Run.block ?_
  have hc5 := f1.cap
  refine Run.sub (e' := [(1, vi p1), (2, .pointer (some ⟨g4, 0, none⟩)), (5, vi (-1)), (14, .slice A1 p0.Refs.length c1), (15, vi (p0.Refs.length : Int)), (16, vi ((0 : Nat) : Int))]) (subB_spec ⟨rfl, rfl, rfl, rfl, rfl, rfl, trivial⟩) ?_
  refine Run.loop (fun mb5 => (fun e' w' => ∃ (i5 : Nat) (x266 : Int) (z265 : Zp), mb5 = p0.Refs.length - i5 ∧ i5 ≤ p0.Refs.length ∧ forL (go_plan_Unneeded.b1 p1) (fun x266 => (go_plan_kind p0 2).bind fun y275 => forL (go_plan_Unneeded.b2 x266 y275) (fun l356 => some l356) 0 p0.Refs []) i5 (p0.Refs.drop i5) x266 = some r ∧ e' = [(1, vi p1), (2, .pointer (some ⟨g4, 0, none⟩)), (5, vi x266), (14, .slice A1 p0.Refs.length c1), (15, vi (p0.Refs.length : Int)), (16, vi (i5 : Int))] ∧ Le z0 z265 ∧ Ht w0 (frz z265 :: (blk g4 [.slice A1 p0.Refs.length c1, vi p0.Floor] 27) :: X) w')) p0.Refs.length ⟨0, (-1), z0, rfl, Nat.zero_le _, hf, rfl, hle0, hst4⟩ ?_
  rintro _ e' w267 ⟨i5, x266, z265, rfl, hi5, hf, rfl, hz267, hst267⟩
  replace f1 := f1.mono hz267
  refine Run.seq ?_
  refine Run.region ?_
  refine Ops.ex (Ex.lss rfl rfl) rfl rfl rfl ?_
  refine Ops.nil ?_
  refine Run.seq ?_
  refine Run.cond rfl (fun hc => ?_) (fun hc => ?_)
  · have hl5 := lt_of_dec hc
    obtain ⟨a5, nxb5, ha5, hnxb5, hf⟩ := forL_in hf hl5
    unfold go_plan_Unneeded.b1 at hf
    try dsimp only at hf
    refine Run.skip ?_
    refine Run.seq ?_
    refine Run.block ?_
    refine Run.seq ?_
    refine Run.region ?_
    obtain ⟨g272, p272, o272, cs272, hA272, ho272, hr272, f272⟩ := SlH.elem f1.toH (atI_nat ha5)
    obtain rfl := hr272
    refine Ops.ex (Ex.ixA hA272 ho272 (atI_nat ha5) rfl rfl rfl Try.underlying25 sz37) rfl rfl rfl ?_
    refine Ops.loadAgg [vs a5.Name, vi a5.Kind, vi a5.From, vi a5.To] rfl Try.underlying37 rfl sz37 rfl (cells_of_zc rfl (f272.mono hst267.le)) rfl ?_
    refine Ops.allocF [vs [], vi 0, vi 0, vi 0] hst267 zr37 rfl rfl (fun g273 w273 hst273 => ?_)
    refine Ops.store 1 [vs a5.Name, vi a5.Kind, vi a5.From, vi a5.To] hst273 rfl rfl rfl rfl sz37 rfl (by simp [Value.oneCell']) (by simp) (fun w274 hst274 => ?_)
    refine Ops.nil ?_
    refine Run.seq ?_
    refine Run.region ?_
    refine Ops.ex (Ex.fieldAddr rfl Try.underlying37 rfl sz35) rfl rfl rfl ?_
    refine Ops.load rfl Try.underlying35 rfl (hst274.cell (i := 1) rfl rfl) rfl ?_
    refine Ops.ex (Ex.eqlI rfl rfl) rfl rfl rfl ?_
    refine Ops.ex (Ex.move rfl) rfl rfl rfl ?_
    refine Ops.case 23 rfl (fun hc => ?_) (fun hc => ?_)
    · replace hf := ifT (dec_T hc) hf
      refine Ops.on rfl ?_
      refine Ops.ex (Ex.fieldAddr rfl Try.underlying37 rfl sz3) rfl rfl rfl ?_
      refine Ops.on rfl ?_
      refine Ops.load rfl Try.underlying3 rfl (hst274.cell (i := 1) rfl rfl) rfl ?_
      refine Ops.on rfl ?_
      refine Ops.ex (Ex.move rfl) rfl rfl rfl ?_
      refine Ops.on rfl ?_
      refine Ops.ex (Ex.leq rfl rfl) rfl rfl rfl ?_
      refine Ops.ex (Ex.pickT rfl rfl) rfl rfl rfl ?_
      refine Ops.nil ?_
      refine Run.cond rfl (fun hc => ?_) (fun hc => ?_)
      · replace hf := ifT (dec_T hc) hf
        refine Run.region ?_
        refine Ops.ex (Ex.move rfl) rfl rfl rfl ?_
        refine Ops.ex (Ex.fieldAddr rfl Try.underlying37 rfl sz3) rfl rfl rfl ?_
        refine Ops.load rfl Try.underlying3 rfl (hst274.cell (i := 1) rfl rfl) rfl ?_
        refine Ops.ex (Ex.max2 rfl rfl rfl) rfl rfl rfl ?_
        refine Ops.ex (Ex.assign rfl) rfl rfl rfl ?_
        refine Ops.nil ?_
        refine Run.endBlk ?_
        refine Run.region ?_
        refine Ops.ex (Ex.add rfl rfl) rfl rfl rfl ?_
        refine Ops.ex (Ex.move rfl) rfl rfl rfl ?_
        refine Ops.nil ?_
        refine Run.re 16 rfl (congrArg vi (wr_succ' hl5 hc5)) ?_
        exact Run.sub (by exact subB_spec ⟨rfl, rfl, rfl, rfl, rfl, rfl, trivial⟩) (Run.stop ⟨p0.Refs.length - (i5 + 1), by omega, i5 + 1, max x266 a5.To, z265, rfl, by omega, (hnxb5 _).symm.trans hf, rfl, hz267, (St.forget hst274 1)⟩)
      · replace hf := ifF (dec_F hc) hf
        refine Run.skip ?_
        refine Run.endBlk ?_
        refine Run.region ?_
        refine Ops.ex (Ex.add rfl rfl) rfl rfl rfl ?_
        refine Ops.ex (Ex.move rfl) rfl rfl rfl ?_
        refine Ops.nil ?_
        refine Run.re 16 rfl (congrArg vi (wr_succ' hl5 hc5)) ?_
        exact Run.sub (by exact subB_spec ⟨rfl, rfl, rfl, rfl, rfl, rfl, trivial⟩) (Run.stop ⟨p0.Refs.length - (i5 + 1), by omega, i5 + 1, x266, z265, rfl, by omega, (hnxb5 _).symm.trans hf, rfl, hz267, (St.forget hst274 1)⟩)
    · replace hf := ifF (dec_F hc) hf
      refine Ops.off rfl rfl ?_
      refine Ops.off rfl rfl ?_
      refine Ops.off rfl rfl ?_
      refine Ops.off rfl rfl ?_
      refine Ops.ex (Ex.pickF rfl rfl) rfl rfl rfl ?_
      refine Ops.nil ?_
      refine Run.condF rfl rfl ?_
      refine Run.skip ?_
      refine Run.endBlk ?_
      refine Run.region ?_
      refine Ops.ex (Ex.add rfl rfl) rfl rfl rfl ?_
      refine Ops.ex (Ex.move rfl) rfl rfl rfl ?_
      refine Ops.nil ?_
      refine Run.re 16 rfl (congrArg vi (wr_succ' hl5 hc5)) ?_
      exact Run.sub (by exact subB_spec ⟨rfl, rfl, rfl, rfl, rfl, rfl, trivial⟩) (Run.stop ⟨p0.Refs.length - (i5 + 1), by omega, i5 + 1, x266, z265, rfl, by omega, (hnxb5 _).symm.trans hf, rfl, hz267, (St.forget hst274 1)⟩)
  · replace hf := forL_out hf (nlt_of_dec hc)
    try dsimp only at hf
    refine Run.exit _ rfl ?_
    refine Run.seq ?_
    refine Run.region ?_
    refine Ops.loadAgg _ rfl Try.underlying27 rfl sz27 rfl (hst267.cells (i := 1) rfl 0 2) rfl ?_
    obtain ⟨y275, hy275, hf⟩ := bnd hf
    refine Ops.call rfl rfl Try.func19 (by kernel_rfl) (by kernel_rfl) rfl (go_plan_kind.walk (p0 := p0) (p1 := 2) (hst := hst267) (f1 := f1) (hf := hy275)) ?_
    rintro _ w275 ⟨z275, A276, c276, rfl, hz275, f276, hst275⟩
    refine ⟨_, rfl, ?_⟩
    replace f1 := f1.mono hz275
    replace hz267 := hz267.trans hz275
    refine Ops.ex (Ex.assign rfl) rfl rfl rfl ?_
    refine Ops.nil ?_
    refine Run.seq ?_
    refine Run.region ?_
    refine Ops.ex (Ex.assign rfl) rfl rfl rfl ?_
    refine Ops.nil ?_
    refine Run.seq ?_
    refine Run.seq ?_
    refine Run.region ?_
    refine Ops.ex (Ex.fieldAddr rfl Try.underlying27 rfl sz25) rfl rfl rfl ?_
    refine Ops.load rfl Try.underlying25 rfl (hst275.cell (i := 1) rfl rfl) rfl ?_
    refine Ops.ex (Ex.len' rfl rfl rfl Try.underlying25) rfl rfl rfl ?_
    refine Ops.ex (Ex.move rfl) rfl rfl rfl ?_
    refine Ops.nil ?_
    refine Run.block ?_
    have hc277 := f1.cap
    have hm278 := Le.refl z275
    have hst357 := hst275.row0 9 1
    refine Run.sub (e' := [(5, vi x266), (8, .slice A276 y275.length c276), (9, .slice none 0 0), (37, .slice A1 p0.Refs.length c1), (38, vi (p0.Refs.length : Int)), (39, vi ((0 : Nat) : Int))]) (subB_spec ⟨rfl, rfl, rfl, rfl, rfl, rfl, trivial⟩) ?_
    refine Run.loop (fun mb277 => (fun e' w' => ∃ (i277 : Nat) (l356 : List Str) (A356 : Option Addr) (c356 : Nat) (d356 : List Value) (z355 : Zp), mb277 = p0.Refs.length - i277 ∧ i277 ≤ p0.Refs.length ∧ forL (go_plan_Unneeded.b2 x266 y275) (fun l356 => some l356) i277 (p0.Refs.drop i277) l356 = some r ∧ e' = [(5, vi x266), (8, .slice A276 y275.length c276), (9, .slice A356 l356.length c356), (37, .slice A1 p0.Refs.length c1), (38, vi (p0.Refs.length : Int)), (39, vi (i277 : Int))] ∧ Le z275 z355 ∧ Le z0 z355 ∧ Cs tS z355 d356 l356 ∧ Ht w0 (frz z355 :: (orow 9 1 (.slice A356 l356.length c356) l356.length d356) :: X) w')) p0.Refs.length ⟨0, [], none, 0, [], z275, rfl, Nat.zero_le _, hf, rfl, hm278, hz267, (Cs.nil _ _), (St.forget hst357 2)⟩ ?_
    rintro _ e' w359 ⟨i277, l356, A356, c356, d356, z355, rfl, hi277, hf, rfl, hz359, hy359_0, f356, hst359⟩
    replace f276 := f276.mono hz359; replace f1 := f1.mono hz359
    refine Run.seq ?_
    refine Run.region ?_
    refine Ops.ex (Ex.lss rfl rfl) rfl rfl rfl ?_
    refine Ops.nil ?_
    refine Run.seq ?_
    refine Run.cond rfl (fun hc => ?_) (fun hc => ?_)
    · have hl277 := lt_of_dec hc
      obtain ⟨a277, nxb277, ha277, hnxb277, hf⟩ := forL_in hf hl277
      unfold go_plan_Unneeded.b2 at hf
      try dsimp only at hf
      refine Run.skip ?_
      refine Run.seq ?_
      refine Run.block ?_
      refine Run.seq ?_
      refine Run.region ?_
      obtain ⟨g364, p364, o364, cs364, hA364, ho364, hr364, f364⟩ := SlH.elem f1.toH (atI_nat ha277)
      obtain rfl := hr364
      refine Ops.ex (Ex.ixA hA364 ho364 (atI_nat ha277) rfl rfl rfl Try.underlying25 sz37) rfl rfl rfl ?_
      refine Ops.loadAgg [vs a277.Name, vi a277.Kind, vi a277.From, vi a277.To] rfl Try.underlying37 rfl sz37 rfl (cells_of_zc rfl (f364.mono hst359.le)) rfl ?_
      refine Ops.allocF [vs [], vi 0, vi 0, vi 0] hst359 zr37 rfl rfl (fun g365 w365 hst365 => ?_)
      refine Ops.store 1 [vs a277.Name, vi a277.Kind, vi a277.From, vi a277.To] hst365 rfl rfl rfl rfl sz37 rfl (by simp [Value.oneCell']) (by simp) (fun w366 hst366 => ?_)
      refine Ops.nil ?_
      refine Run.seq ?_
      have hm376 := Le.refl z355
      apply Run.jn (fun e' w' => ∃ (b378 : Bool) (z377 : Zp), go_plan_Unneeded.j1 x266 l356 a277 nxb277 b378 = some r ∧ e' = [(5, vi x266), (8, .slice A276 y275.length c276), (9, .slice A356 l356.length c356), (11, .pointer (some ⟨g365, 0, none⟩)), (12, vb b378), (37, .slice A1 p0.Refs.length c1), (38, vi (p0.Refs.length : Int)), (39, vi (i277 : Int))] ∧ Le z355 z377 ∧ Le z0 z377 ∧ Le z275 z377 ∧ Ht w0 (frz z377 :: (blk g365 [vs a277.Name, vi a277.Kind, vi a277.From, vi a277.To] 37) :: (orow 9 1 (.slice A356 l356.length c356) l356.length d356) :: X) w')
      · intro hj367
        refine Run.drawH [([], fun w => ∃ ζ Y, Le z355 ζ ∧ Ht w0 (frz ζ :: (blk g365 [vs a277.Name, vi a277.Kind, vi a277.From, vi a277.To] 37) :: (orow 9 1 (.slice A356 l356.length c356) l356.length d356) :: Y) w)] (by kernel_rfl) hst366 (fun w379 hst379 => ?_)
        have hS0 := (⟨_, _, (Le.refl _), (St.up (St.up (St.up hst379 2 rfl) 2 rfl) 2 rfl)⟩ : (fun w => ∃ ζ Y, Le z355 ζ ∧ Ht w0 (frz ζ :: (blk g365 [vs a277.Name, vi a277.Kind, vi a277.From, vi a277.To] 37) :: (orow 9 1 (.slice A356 l356.length c356) l356.length d356) :: Y) w) _)
        refine Any.takeE 0 rfl rfl rfl rfl (by kernel_rfl) (fun _ _ _ _ _ h => h) ((Ex.move rfl).s) ?_
        refine Any.takeE 1 rfl rfl rfl rfl (by kernel_rfl) (fun _ _ _ _ _ h => h) ((Ex.len' rfl rfl rfl Try.underlying25).s) ?_
        refine Any.takeE 2 rfl rfl rfl rfl (by kernel_rfl) (fun _ _ _ _ _ h => h) ((Ex.gtr rfl rfl).s) ?_
        refine Any.takeE 3 rfl rfl rfl rfl (by kernel_rfl) (fun _ _ _ _ _ h => h) ((Ex.move rfl).s) ?_
        refine Any.case 46 rfl (fun hc => ?_) (fun hc => ?_)
        · replace hf := ifT (dec_T hc) hf
          refine Any.take 0 4 rfl rfl rfl rfl rfl (by kernel_rfl) (fun _ _ _ _ _ h => h) (ExS.g (ExS.loadAgg [vs a277.Name, vi a277.Kind, vi a277.From, vi a277.To] rfl Try.underlying37 rfl sz37 rfl (fun w hS => by obtain ⟨_, _, _, hs⟩ := hS; exact hs.cells (i := 1) rfl 0 4))) hS0 ?_
          refine Any.takeE 5 rfl rfl rfl rfl (by kernel_rfl) (fun _ _ _ _ _ h => h) (ExS.g ((Ex.move rfl).s)) ?_
          refine Any.takeE 6 rfl rfl rfl rfl (by kernel_rfl) (fun _ _ _ _ _ h => h) (ExS.g ((Ex.move rfl).s)) ?_
          refine Any.takeE 7 rfl rfl rfl rfl (by kernel_rfl) (fun _ _ _ _ _ h => h) (ExS.g ((Ex.len' rfl rfl rfl Try.underlying25).s)) ?_
          refine Any.takeE 8 rfl rfl rfl rfl (by kernel_rfl) (fun _ _ _ _ _ h => h) (ExS.g ((Ex.sub rfl rfl).s)) ?_
          obtain ⟨y380, hy380, hf⟩ := bnd hf
          obtain ⟨g385, p385, o385, cs385, hA385, ho385, hr385, f385⟩ := SlH.elem f276.toH hy380
          obtain rfl := hr385
          refine Any.takeE 9 rfl rfl rfl rfl (by kernel_rfl) (fun _ _ _ _ _ h => h) (ExS.g ((Ex.ixA hA385 ho385 hy380 rfl rfl rfl Try.underlying25 sz37).s)) ?_
          refine Any.take 0 10 rfl rfl rfl rfl rfl (by kernel_rfl) (fun _ _ _ _ _ h => h) (ExS.g (ExS.loadAgg [vs y380.Name, vi y380.Kind, vi y380.From, vi y380.To] rfl Try.underlying37 rfl sz37 rfl (fun w hS => by obtain ⟨_, _, hz, hs⟩ := hS; exact cells_of_zc rfl (f385.mono (hz.trans hs.le))))) hS0 ?_
          refine Any.takeE 11 rfl rfl rfl rfl (by kernel_rfl) (fun _ _ _ _ _ h => h) (ExS.g ((Ex.eqlV rfl rfl (eqv37 9998 a277 y380) (by kernel_rfl)).s)) ?_
          refine Any.takeE 12 rfl rfl rfl rfl (by kernel_rfl) (fun _ _ _ _ _ h => h) ((Ex.pickT rfl rfl).s) ?_
          refine Any.takeE 13 rfl rfl rfl rfl (by kernel_rfl) (fun _ _ _ _ _ h => h) ((Ex.assign rfl).s) ?_
          refine Any.done (by kernel_rfl) ?_
          exact Run.sub (by exact subB_spec ⟨rfl, rfl, rfl, rfl, rfl, rfl, rfl, rfl, trivial⟩) (hj367 _ _ ⟨decide (a277 = y380), z355, hf, rfl, hm376, hy359_0, hz359, hst379⟩)
        · replace hf := ifF (dec_F hc) hf
          refine Any.pass 4 rfl rfl rfl rfl (by kernel_rfl) (fun _ _ _ _ _ h => h) ?_
          refine Any.pass 5 rfl rfl rfl rfl (by kernel_rfl) (fun _ _ _ _ _ h => h) ?_
          refine Any.pass 6 rfl rfl rfl rfl (by kernel_rfl) (fun _ _ _ _ _ h => h) ?_
          refine Any.pass 7 rfl rfl rfl rfl (by kernel_rfl) (fun _ _ _ _ _ h => h) ?_
          refine Any.pass 8 rfl rfl rfl rfl (by kernel_rfl) (fun _ _ _ _ _ h => h) ?_
          refine Any.pass 9 rfl rfl rfl rfl (by kernel_rfl) (fun _ _ _ _ _ h => h) ?_
          refine Any.pass 10 rfl rfl rfl rfl (by kernel_rfl) (fun _ _ _ _ _ h => h) ?_
          refine Any.pass 11 rfl rfl rfl rfl (by kernel_rfl) (fun _ _ _ _ _ h => h) ?_
          refine Any.takeE 12 rfl rfl rfl rfl (by kernel_rfl) (fun _ _ _ _ _ h => h) ((Ex.pickF rfl rfl).s) ?_
          refine Any.takeE 13 rfl rfl rfl rfl (by kernel_rfl) (fun _ _ _ _ _ h => h) ((Ex.assign rfl).s) ?_
          refine Any.done (by kernel_rfl) ?_
          exact Run.sub (by exact subB_spec ⟨rfl, rfl, rfl, rfl, rfl, rfl, rfl, rfl, trivial⟩) (hj367 _ _ ⟨false, z355, hf, rfl, hm376, hy359_0, hz359, hst379⟩)
      · rintro e' w386 ⟨b378, z377, hf, rfl, hz386, hy386_0, hy386_1, hst386⟩
        replace f276 := f276.mono hz386; replace f1 := f1.mono hz386; replace f356 := f356.mono hz386
        unfold go_plan_Unneeded.j1 at hf
        refine Run.seq ?_
        have hm388 := Le.refl z377
        apply Run.jn (fun e' w' => ∃ (b390 : Bool) (z389 : Zp), go_plan_Unneeded.j2 l356 a277 nxb277 b390 = some r ∧ e' = [(5, vi x266), (8, .slice A276 y275.length c276), (9, .slice A356 l356.length c356), (11, .pointer (some ⟨g365, 0, none⟩)), (37, .slice A1 p0.Refs.length c1), (38, vi (p0.Refs.length : Int)), (39, vi (i277 : Int)), (85, vb b390)] ∧ Le z377 z389 ∧ Le z0 z389 ∧ Le z275 z389 ∧ Le z355 z389 ∧ Ht w0 (frz z389 :: (blk g365 [vs a277.Name, vi a277.Kind, vi a277.From, vi a277.To] 37) :: (orow 9 1 (.slice A356 l356.length c356) l356.length d356) :: X) w')
        · intro hj387
          refine Run.region ?_
          refine Ops.ex (Ex.fieldAddr rfl Try.underlying37 rfl sz35) rfl rfl rfl ?_
          refine Ops.load rfl Try.underlying35 rfl (hst386.cell (i := 1) rfl rfl) rfl ?_
          refine Ops.ex (Ex.eqlI rfl rfl) rfl rfl rfl ?_
          refine Ops.ex (Ex.move rfl) rfl rfl rfl ?_
          refine Ops.case 59 rfl (fun hc => ?_) (fun hc => ?_)
          · replace hf := ifT (dec_T hc) hf
            refine Ops.on rfl ?_
            refine Ops.ex (Ex.fieldAddr rfl Try.underlying37 rfl sz3) rfl rfl rfl ?_
            refine Ops.on rfl ?_
            refine Ops.load rfl Try.underlying3 rfl (hst386.cell (i := 1) rfl rfl) rfl ?_
            refine Ops.on rfl ?_
            refine Ops.ex (Ex.move rfl) rfl rfl rfl ?_
            refine Ops.on rfl ?_
            refine Ops.ex (Ex.lss rfl rfl) rfl rfl rfl ?_
            refine Ops.ex (Ex.pickT rfl rfl) rfl rfl rfl ?_
            refine Ops.ex (Ex.move rfl) rfl rfl rfl ?_
            refine Ops.case 65 rfl (fun hc => ?_) (fun hc => ?_)
            · replace hf := ifT (dec_T hc) hf
              refine Ops.off rfl rfl ?_
              refine Ops.off rfl rfl ?_
              refine Ops.off rfl rfl ?_
              refine Ops.off rfl rfl ?_
              refine Ops.offU rfl rfl ?_
              refine Ops.offU rfl rfl ?_
              refine Ops.offU rfl rfl ?_
              refine Ops.offU rfl rfl ?_
              refine Ops.off rfl rfl ?_
              refine Ops.off rfl rfl ?_
              refine Ops.offU rfl rfl ?_
              refine Ops.offU rfl rfl ?_
              refine Ops.offU rfl rfl ?_
              refine Ops.offU rfl rfl ?_
              refine Ops.off rfl rfl ?_
              refine Ops.off rfl rfl ?_
              refine Ops.offU rfl rfl ?_
              refine Ops.offU rfl rfl ?_
              refine Ops.off rfl rfl ?_
              refine Ops.ex (Ex.pickT rfl rfl) rfl rfl rfl ?_
              refine Ops.nil ?_
              exact Run.sub (by exact subB_spec ⟨rfl, rfl, rfl, rfl, rfl, rfl, rfl, rfl, trivial⟩) (hj387 _ _ ⟨true, z377, hf, rfl, hm388, hy386_0, hy386_1, hz386, hst386⟩)
            · replace hf := ifF (dec_F hc) hf
              refine Ops.on rfl ?_
              refine Ops.ex (Ex.fieldAddr rfl Try.underlying37 rfl sz35) rfl rfl rfl ?_
              refine Ops.on rfl ?_
              refine Ops.load rfl Try.underlying35 rfl (hst386.cell (i := 1) rfl rfl) rfl ?_
              refine Ops.on rfl ?_
              refine Ops.ex (Ex.neqI rfl rfl) rfl rfl rfl ?_
              refine Ops.on rfl ?_
              refine Ops.ex (Ex.move rfl) rfl rfl rfl ?_
              refine Ops.case 69 rfl (fun hc => ?_) (fun hc => ?_)
              · replace hf := ifF (neq_T hc) hf
                refine Ops.on rfl ?_
                refine Ops.ex (Ex.fieldAddr rfl Try.underlying37 rfl sz3) rfl rfl rfl ?_
                refine Ops.on rfl ?_
                refine Ops.load rfl Try.underlying3 rfl (hst386.cell (i := 1) rfl rfl) rfl ?_
                refine Ops.on rfl ?_
                refine Ops.ex (Ex.move rfl) rfl rfl rfl ?_
                refine Ops.on rfl ?_
                refine Ops.ex (Ex.leq rfl rfl) rfl rfl rfl ?_
                refine Ops.on rfl ?_
                refine Ops.ex (Ex.pickT rfl rfl) rfl rfl rfl ?_
                refine Ops.on rfl ?_
                refine Ops.ex (Ex.move rfl) rfl rfl rfl ?_
                refine Ops.case 75 rfl (fun hc => ?_) (fun hc => ?_)
                · replace hf := ifT (dec_T hc) hf
                  refine Ops.on rfl ?_
                  refine Ops.ex (Ex.fieldAddr rfl Try.underlying37 rfl sz3) rfl rfl rfl ?_
                  refine Ops.on rfl ?_
                  refine Ops.load rfl Try.underlying3 rfl (hst386.cell (i := 1) rfl rfl) rfl ?_
                  refine Ops.on rfl ?_
                  refine Ops.ex (Ex.move rfl) rfl rfl rfl ?_
                  refine Ops.on rfl ?_
                  refine Ops.ex (Ex.lss rfl rfl) rfl rfl rfl ?_
                  refine Ops.on rfl ?_
                  refine Ops.ex (Ex.pickT rfl rfl) rfl rfl rfl ?_
                  refine Ops.on rfl ?_
                  refine Ops.ex (Ex.move rfl) rfl rfl rfl ?_
                  refine Ops.case 81 rfl (fun hc => ?_) (fun hc => ?_)
                  · replace hf := ifT (dec_T hc) hf
                    refine Ops.on rfl ?_
                    refine Ops.ex (Ex.move rfl) rfl rfl rfl ?_
                    refine Ops.on rfl ?_
                    refine Ops.ex (Ex.not rfl) rfl rfl rfl ?_
                    refine Ops.on rfl ?_
                    refine Ops.ex (Ex.pickT rfl rfl) rfl rfl rfl ?_
                    refine Ops.ex (Ex.pickF rfl rfl) rfl rfl rfl ?_
                    refine Ops.nil ?_
                    exact Run.sub (by exact subB_spec ⟨rfl, rfl, rfl, rfl, rfl, rfl, rfl, rfl, trivial⟩) (hj387 _ _ ⟨!b378, z377, hf, rfl, hm388, hy386_0, hy386_1, hz386, hst386⟩)
                  · replace hf := ifF (dec_F hc) hf
                    refine Ops.off rfl rfl ?_
                    refine Ops.off rfl rfl ?_
                    refine Ops.on rfl ?_
                    refine Ops.ex (Ex.pickF rfl rfl) rfl rfl rfl ?_
                    refine Ops.ex (Ex.pickF rfl rfl) rfl rfl rfl ?_
                    refine Ops.nil ?_
                    exact Run.sub (by exact subB_spec ⟨rfl, rfl, rfl, rfl, rfl, rfl, rfl, rfl, trivial⟩) (hj387 _ _ ⟨false, z377, hf, rfl, hm388, hy386_0, hy386_1, hz386, hst386⟩)
                · replace hf := ifF (dec_F hc) hf
                  refine Ops.off rfl rfl ?_
                  refine Ops.off rfl rfl ?_
                  refine Ops.off rfl rfl ?_
                  refine Ops.off rfl rfl ?_
                  refine Ops.on rfl ?_
                  refine Ops.ex (Ex.pickF rfl rfl) rfl rfl rfl ?_
                  refine Ops.on rfl ?_
                  refine Ops.ex (Ex.move rfl) rfl rfl rfl ?_
                  refine Ops.off rfl rfl ?_
                  refine Ops.off rfl rfl ?_
                  refine Ops.on rfl ?_
                  refine Ops.ex (Ex.pickF rfl rfl) rfl rfl rfl ?_
                  refine Ops.ex (Ex.pickF rfl rfl) rfl rfl rfl ?_
                  refine Ops.nil ?_
                  exact Run.sub (by exact subB_spec ⟨rfl, rfl, rfl, rfl, rfl, rfl, rfl, rfl, trivial⟩) (hj387 _ _ ⟨false, z377, hf, rfl, hm388, hy386_0, hy386_1, hz386, hst386⟩)
              · replace hf := ifT (neq_F hc) hf
                refine Ops.off rfl rfl ?_
                refine Ops.off rfl rfl ?_
                refine Ops.off rfl rfl ?_
                refine Ops.off rfl rfl ?_
                refine Ops.on rfl ?_
                refine Ops.ex (Ex.pickF rfl rfl) rfl rfl rfl ?_
                refine Ops.on rfl ?_
                refine Ops.ex (Ex.move rfl) rfl rfl rfl ?_
                refine Ops.off rfl rfl ?_
                refine Ops.off rfl rfl ?_
                refine Ops.off rfl rfl ?_
                refine Ops.off rfl rfl ?_
                refine Ops.on rfl ?_
                refine Ops.ex (Ex.pickF rfl rfl) rfl rfl rfl ?_
                refine Ops.on rfl ?_
                refine Ops.ex (Ex.move rfl) rfl rfl rfl ?_
                refine Ops.off rfl rfl ?_
                refine Ops.off rfl rfl ?_
                refine Ops.on rfl ?_
                refine Ops.ex (Ex.pickF rfl rfl) rfl rfl rfl ?_
                refine Ops.ex (Ex.pickF rfl rfl) rfl rfl rfl ?_
                refine Ops.nil ?_
                exact Run.sub (by exact subB_spec ⟨rfl, rfl, rfl, rfl, rfl, rfl, rfl, rfl, trivial⟩) (hj387 _ _ ⟨false, z377, hf, rfl, hm388, hy386_0, hy386_1, hz386, hst386⟩)
          · replace hf := ifF (dec_F hc) hf
            refine Ops.off rfl rfl ?_
            refine Ops.off rfl rfl ?_
            refine Ops.off rfl rfl ?_
            refine Ops.off rfl rfl ?_
            refine Ops.ex (Ex.pickF rfl rfl) rfl rfl rfl ?_
            refine Ops.ex (Ex.move rfl) rfl rfl rfl ?_
            refine Ops.on rfl ?_
            refine Ops.ex (Ex.fieldAddr rfl Try.underlying37 rfl sz35) rfl rfl rfl ?_
            refine Ops.on rfl ?_
            refine Ops.load rfl Try.underlying35 rfl (hst386.cell (i := 1) rfl rfl) rfl ?_
            refine Ops.on rfl ?_
            refine Ops.ex (Ex.neqI rfl rfl) rfl rfl rfl ?_
            refine Ops.on rfl ?_
            refine Ops.ex (Ex.move rfl) rfl rfl rfl ?_
            refine Ops.case 69 rfl (fun hc => ?_) (fun hc => ?_)
            · replace hf := ifF (neq_T hc) hf
              refine Ops.on rfl ?_
              refine Ops.ex (Ex.fieldAddr rfl Try.underlying37 rfl sz3) rfl rfl rfl ?_
              refine Ops.on rfl ?_
              refine Ops.load rfl Try.underlying3 rfl (hst386.cell (i := 1) rfl rfl) rfl ?_
              refine Ops.on rfl ?_
              refine Ops.ex (Ex.move rfl) rfl rfl rfl ?_
              refine Ops.on rfl ?_
              refine Ops.ex (Ex.leq rfl rfl) rfl rfl rfl ?_
              refine Ops.on rfl ?_
              refine Ops.ex (Ex.pickT rfl rfl) rfl rfl rfl ?_
              refine Ops.on rfl ?_
              refine Ops.ex (Ex.move rfl) rfl rfl rfl ?_
              refine Ops.case 75 rfl (fun hc => ?_) (fun hc => ?_)
              · replace hf := ifT (dec_T hc) hf
                refine Ops.on rfl ?_
                refine Ops.ex (Ex.fieldAddr rfl Try.underlying37 rfl sz3) rfl rfl rfl ?_
                refine Ops.on rfl ?_
                refine Ops.load rfl Try.underlying3 rfl (hst386.cell (i := 1) rfl rfl) rfl ?_
                refine Ops.on rfl ?_
                refine Ops.ex (Ex.move rfl) rfl rfl rfl ?_
                refine Ops.on rfl ?_
                refine Ops.ex (Ex.lss rfl rfl) rfl rfl rfl ?_
                refine Ops.on rfl ?_
                refine Ops.ex (Ex.pickT rfl rfl) rfl rfl rfl ?_
                refine Ops.on rfl ?_
                refine Ops.ex (Ex.move rfl) rfl rfl rfl ?_
                refine Ops.case 81 rfl (fun hc => ?_) (fun hc => ?_)
                · replace hf := ifT (dec_T hc) hf
                  refine Ops.on rfl ?_
                  refine Ops.ex (Ex.move rfl) rfl rfl rfl ?_
                  refine Ops.on rfl ?_
                  refine Ops.ex (Ex.not rfl) rfl rfl rfl ?_
                  refine Ops.on rfl ?_
                  refine Ops.ex (Ex.pickT rfl rfl) rfl rfl rfl ?_
                  refine Ops.ex (Ex.pickF rfl rfl) rfl rfl rfl ?_
                  refine Ops.nil ?_
                  exact Run.sub (by exact subB_spec ⟨rfl, rfl, rfl, rfl, rfl, rfl, rfl, rfl, trivial⟩) (hj387 _ _ ⟨!b378, z377, hf, rfl, hm388, hy386_0, hy386_1, hz386, hst386⟩)
                · replace hf := ifF (dec_F hc) hf
                  refine Ops.off rfl rfl ?_
                  refine Ops.off rfl rfl ?_
                  refine Ops.on rfl ?_
                  refine Ops.ex (Ex.pickF rfl rfl) rfl rfl rfl ?_
                  refine Ops.ex (Ex.pickF rfl rfl) rfl rfl rfl ?_
                  refine Ops.nil ?_
                  exact Run.sub (by exact subB_spec ⟨rfl, rfl, rfl, rfl, rfl, rfl, rfl, rfl, trivial⟩) (hj387 _ _ ⟨false, z377, hf, rfl, hm388, hy386_0, hy386_1, hz386, hst386⟩)
              · replace hf := ifF (dec_F hc) hf
                refine Ops.off rfl rfl ?_
                refine Ops.off rfl rfl ?_
                refine Ops.off rfl rfl ?_
                refine Ops.off rfl rfl ?_
                refine Ops.on rfl ?_
                refine Ops.ex (Ex.pickF rfl rfl) rfl rfl rfl ?_
                refine Ops.on rfl ?_
                refine Ops.ex (Ex.move rfl) rfl rfl rfl ?_
                refine Ops.off rfl rfl ?_
                refine Ops.off rfl rfl ?_
                refine Ops.on rfl ?_
                refine Ops.ex (Ex.pickF rfl rfl) rfl rfl rfl ?_
                refine Ops.ex (Ex.pickF rfl rfl) rfl rfl rfl ?_
                refine Ops.nil ?_
                exact Run.sub (by exact subB_spec ⟨rfl, rfl, rfl, rfl, rfl, rfl, rfl, rfl, trivial⟩) (hj387 _ _ ⟨false, z377, hf, rfl, hm388, hy386_0, hy386_1, hz386, hst386⟩)
            · replace hf := ifT (neq_F hc) hf
              refine Ops.off rfl rfl ?_
              refine Ops.off rfl rfl ?_
              refine Ops.off rfl rfl ?_
              refine Ops.off rfl rfl ?_
              refine Ops.on rfl ?_
              refine Ops.ex (Ex.pickF rfl rfl) rfl rfl rfl ?_
              refine Ops.on rfl ?_
              refine Ops.ex (Ex.move rfl) rfl rfl rfl ?_
              refine Ops.off rfl rfl ?_
              refine Ops.off rfl rfl ?_
              refine Ops.off rfl rfl ?_
              refine Ops.off rfl rfl ?_
              refine Ops.on rfl ?_
              refine Ops.ex (Ex.pickF rfl rfl) rfl rfl rfl ?_
              refine Ops.on rfl ?_
              refine Ops.ex (Ex.move rfl) rfl rfl rfl ?_
              refine Ops.off rfl rfl ?_
              refine Ops.off rfl rfl ?_
              refine Ops.on rfl ?_
              refine Ops.ex (Ex.pickF rfl rfl) rfl rfl rfl ?_
              refine Ops.ex (Ex.pickF rfl rfl) rfl rfl rfl ?_
              refine Ops.nil ?_
              exact Run.sub (by exact subB_spec ⟨rfl, rfl, rfl, rfl, rfl, rfl, rfl, rfl, trivial⟩) (hj387 _ _ ⟨false, z377, hf, rfl, hm388, hy386_0, hy386_1, hz386, hst386⟩)
        · rintro e' w391 ⟨b390, z389, hf, rfl, hz391, hy391_0, hy391_1, hy391_2, hst391⟩
          replace f276 := f276.mono hz391; replace f1 := f1.mono hz391; replace f356 := f356.mono hz391
          unfold go_plan_Unneeded.j2 at hf
          refine Run.cond rfl (fun hc => ?_) (fun hc => ?_)
          · replace hf := ifTb hc hf
            refine Run.region ?_
            refine Ops.ex (Ex.move rfl) rfl rfl rfl ?_
            refine Ops.ex (Ex.fieldAddr rfl Try.underlying37 rfl sz9) rfl rfl rfl ?_
            refine Ops.load rfl Try.underlying9 rfl (hst391.cell (i := 1) rfl rfl) rfl ?_
            refine Ops.sliceF [vs a277.Name] hst391 rfl Try.underlying48 sz9 zr9 rfl rfl (by kernel_rfl) rfl (by simp [Value.oneCell']) rfl (fun A392 w392 hst392 => ?_)
            have f392 : Cs tS z389 [vs a277.Name] [a277.Name] := (Cs.cons (c := [vs a277.Name]) rfl (Cs.nil _ _))
            obtain ⟨l393, hy393, hf⟩ := bnd hf
            refine Ops.app 3 hst392 rfl f356 rfl (own_slh f392 rfl (hst392.get (i := 1) rfl)) rfl hy393 rfl rfl rfl rfl Try.underlying48 inf9 rfl (by decide) (by decide) rfl (fun A393 c393 d393 w393 f393 hst393 => ?_)
            refine Ops.ex (Ex.assign rfl) rfl rfl rfl ?_
            refine Ops.nil ?_
            refine Run.endBlk ?_
            refine Run.region ?_
            refine Ops.ex (Ex.add rfl rfl) rfl rfl rfl ?_
            refine Ops.ex (Ex.move rfl) rfl rfl rfl ?_
            refine Ops.nil ?_
            refine Run.re 39 rfl (congrArg vi (wr_succ' hl277 hc277)) ?_
            exact Run.sub (by exact subB_spec ⟨rfl, rfl, rfl, rfl, rfl, rfl, trivial⟩) (Run.stop ⟨p0.Refs.length - (i277 + 1), by omega, i277 + 1, l393, A393, c393, d393, z389, rfl, by omega, (hnxb277 _).symm.trans hf, rfl, hy391_1, hy391_0, f393, (St.forget (St.forget hst393 2) 1)⟩)
          · replace hf := ifFb hc hf
            refine Run.skip ?_
            refine Run.endBlk ?_
            refine Run.region ?_
            refine Ops.ex (Ex.add rfl rfl) rfl rfl rfl ?_
            refine Ops.ex (Ex.move rfl) rfl rfl rfl ?_
            refine Ops.nil ?_
            refine Run.re 39 rfl (congrArg vi (wr_succ' hl277 hc277)) ?_
            exact Run.sub (by exact subB_spec ⟨rfl, rfl, rfl, rfl, rfl, rfl, trivial⟩) (Run.stop ⟨p0.Refs.length - (i277 + 1), by omega, i277 + 1, l356, A356, c356, d356, z389, rfl, by omega, (hnxb277 _).symm.trans hf, rfl, hy391_1, hy391_0, f356, (St.forget hst391 1)⟩)
    · replace hf := forL_out hf (nlt_of_dec hc)
      try dsimp only at hf
      refine Run.exit _ rfl ?_
      refine Run.seq ?_
      refine Run.region ?_
      refine Ops.ex (Ex.move rfl) rfl rfl rfl ?_
      refine Ops.ex (Ex.assign rfl) rfl rfl rfl ?_
      refine Ops.nil ?_
      obtain ⟨z394, hz394, f394, hst394⟩ := St.freeze (τ := tS) (xs := l356) hst359 f356 rfl
      replace f276 := f276.mono hz394; replace f1 := f1.mono hz394
      replace hy359_0 := hy359_0.trans hz394
      replace hz359 := hz359.trans hz394
      obtain rfl := Option.some.inj hf
      exact Run.retV [.slice A356 l356.length c356] rfl ⟨rfl, trivial⟩ ⟨z394, A356, c356, rfl, hy359_0, f394, hst394⟩
def go_law11_Set.j1 (l59 : List apiRef) (i7 : Nat) (a7 : law11Ref) (nxb7 : (List apiRef) → Option editsSet) (x77 : Int) : Option editsSet :=
  (apB 40 l59 ([(⟨[toU8 (wr (97 + (i7 : Int)))], ((a7.Kind % 3).toNat : Int), ((a7.From % 24).toNat : Int), x77⟩ : apiRef)])).bind fun l81 => nxb7 l81
def go_law11_Set.b1 (i7 : Nat) (a7 : law11Ref) : (List apiRef) → (List apiRef → Option editsSet) → Option editsSet :=
  fun l59 nxb7 => if ((a7.Kind % 3).toNat : Int) = 0 then (go_law11_Set.j1 l59 i7 a7 nxb7 ((a7.From % 24).toNat : Int)) else (go_law11_Set.j1 l59 i7 a7 nxb7 (wr (((a7.From % 24).toNat : Int) + ((a7.Long % 9).toNat : Int))))
def go_law11_Set (p0 : List law11Ref) (p1 : UInt8) : Option editsSet :=
  (cutI p0 0 (min (p0.length : Int) 14)).bind fun l6 => forL (go_law11_Set.b1) (fun l59 => some (⟨l59, ((p1 % 12).toNat : Int)⟩ : editsSet)) 0 l6 []
set_option maxRecDepth 100000 in
set_option maxHeartbeats 4000000 in
theorem go_law11_Set.walk {w0 w : World} {X : List Res} {z0 : Zp} {p0 : List law11Ref} {A1 : Option Addr} {c1 : Nat} {p1 : UInt8} {r : editsSet} (hst : Ht w0 (frz z0 :: X) w) (f1 : Sl tlaw11Ref z0 A1 c1 p0) (hf : go_law11_Set p0 p1 = some r) :
    Calls Try.prog 11 #[.slice A1 p0.length c1, vu8 p1] w fun e w' => ∃ (z' : Zp) (A9001 : Option Addr) (c9001 : Nat), e = .returned (.agg #[.slice A9001 r.Refs.length c9001, vi r.Floor]) ∧ Le z0 z' ∧ Sl tapiRef z' A9001 c9001 r.Refs ∧ Ht w0 (frz z' :: X) w' := by
  refine calls_np Try.func11 rfl rfl ?_
  have hle0 := Le.refl z0
  unfold go_law11_Set at hf
  refine Run.seq ?_
  refine Run.region ?_
  refine Ops.allocF [.slice none 0 0, vi 0] hst zr27 rfl rfl (fun g3 w3 hst3 => ?_)
  refine Ops.nil ?_
  refine Run.seq ?_
  refine Run.region ?_
  refine Ops.ex (Ex.move rfl) rfl rfl rfl ?_
  refine Ops.ex (Ex.rem8 (a := p1) (b := 12) rfl rfl (by decide)) rfl rfl rfl ?_
  refine Ops.ex (Ex.cu8 rfl Try.underlying5 Try.underlying3) rfl rfl rfl ?_
  refine Ops.ex (Ex.build [.slice none 0 0, vi ((p1 % 12).toNat : Int)] rfl Try.underlying27 zr27 (pl27 Try.underlying27) (by kernel_rfl)) rfl rfl rfl ?_
  refine Ops.allocF [.slice none 0 0, vi 0] hst3 zr27 rfl rfl (fun g4 w4 hst4 => ?_)
  refine Ops.store 1 [.slice none 0 0, vi ((p1 % 12).toNat : Int)] hst4 rfl rfl rfl rfl sz27 rfl (by simp [Value.oneCell']) (by simp) (fun w5 hst5 => ?_)
  refine Ops.nil ?_
  refine Run.seq ?_
  refine Run.seq ?_
  refine Run.region ?_
  refine Ops.ex (Ex.move rfl) rfl rfl rfl ?_
  refine Ops.ex (Ex.move rfl) rfl rfl rfl ?_
  refine Ops.ex (Ex.len' rfl rfl rfl Try.underlying22) rfl rfl rfl ?_
  refine Ops.ex (Ex.min2 rfl rfl rfl) rfl rfl rfl ?_
  obtain ⟨l6, hy6, hf⟩ := bnd hf
  obtain ⟨A6, c6, hA6, hB6, f6⟩ := SlH.sub f1.toH hy6
  replace f6 := f6.toS
  refine Ops.ex (Ex.subA hA6 hB6 hy6 rfl rfl Try.underlying22 sz57 rfl rfl) rfl rfl rfl ?_
  refine Ops.ex (Ex.len' rfl rfl rfl Try.underlying22) rfl rfl rfl ?_
  refine Ops.ex (Ex.move rfl) rfl rfl rfl ?_
  refine Ops.nil ?_
  refine Run.block ?_
  have hc7 := f6.cap
  have hst60 := hst5.row0 37 4
  refine Run.sub (e' := [(4, .pointer (some ⟨g3, 0, none⟩)), (5, .pointer (some ⟨g4, 0, none⟩)), (17, .slice A6 l6.length c6), (18, vi (l6.length : Int)), (19, vi ((0 : Nat) : Int))]) (subB_spec ⟨rfl, rfl, rfl, rfl, rfl, trivial⟩) ?_
  refine Run.loop (fun mb7 => (fun e' w' => ∃ (i7 : Nat) (l59 : List apiRef) (A59 : Option Addr) (c59 : Nat) (d59 : List Value) (z58 : Zp), mb7 = l6.length - i7 ∧ i7 ≤ l6.length ∧ forL (go_law11_Set.b1) (fun l59 => some (⟨l59, ((p1 % 12).toNat : Int)⟩ : editsSet)) i7 (l6.drop i7) l59 = some r ∧ e' = [(4, .pointer (some ⟨g3, 0, none⟩)), (5, .pointer (some ⟨g4, 0, none⟩)), (17, .slice A6 l6.length c6), (18, vi (l6.length : Int)), (19, vi (i7 : Int))] ∧ Le z0 z58 ∧ Cs tapiRef z58 d59 l59 ∧ Ht w0 (frz z58 :: (orow 37 4 (.slice A59 l59.length c59) l59.length d59) :: (blk g4 [.slice A59 l59.length c59, vi ((p1 % 12).toNat : Int)] 27) :: (blk g3 [.slice none 0 0, vi 0] 27) :: X) w')) l6.length ⟨0, [], none, 0, [], z0, rfl, Nat.zero_le _, hf, rfl, hle0, (Cs.nil _ _), hst60⟩ ?_
  rintro _ e' w62 ⟨i7, l59, A59, c59, d59, z58, rfl, hi7, hf, rfl, hz62, f59, hst62⟩
  replace f6 := f6.mono hz62
  refine Run.seq ?_
  refine Run.region ?_
  refine Ops.ex (Ex.lss rfl rfl) rfl rfl rfl ?_
  refine Ops.nil ?_
  refine Run.seq ?_
  refine Run.cond rfl (fun hc => ?_) (fun hc => ?_)
  · have hl7 := lt_of_dec hc
    obtain ⟨a7, nxb7, ha7, hnxb7, hf⟩ := forL_in hf hl7
    unfold go_law11_Set.b1 at hf
    try dsimp only at hf
    refine Run.skip ?_
    refine Run.seq ?_
    refine Run.block ?_
    refine Run.seq ?_
    refine Run.region ?_
    refine Ops.ex (Ex.move rfl) rfl rfl rfl ?_
    obtain ⟨g66, p66, o66, cs66, hA66, ho66, hr66, f66⟩ := SlH.elem f6.toH (atI_nat ha7)
    obtain rfl := hr66
    refine Ops.ex (Ex.ixA hA66 ho66 (atI_nat ha7) rfl rfl rfl Try.underlying22 sz57) rfl rfl rfl ?_
    refine Ops.loadAgg [vu8 a7.Kind, vu8 a7.From, vu8 a7.Long] rfl Try.underlying57 rfl sz57 rfl (cells_of_zc rfl (f66.mono hst62.le)) rfl ?_
    refine Ops.allocF [vu8 0, vu8 0, vu8 0] hst62 zr57 rfl rfl (fun g67 w67 hst67 => ?_)
    refine Ops.ex (Ex.assign rfl) rfl rfl rfl ?_
    refine Ops.store 1 [vu8 a7.Kind, vu8 a7.From, vu8 a7.Long] hst67 rfl rfl rfl rfl sz57 rfl (by simp [Value.oneCell']) (by simp) (fun w68 hst68 => ?_)
    refine Ops.nil ?_
    refine Run.seq ?_
    refine Run.region ?_
    refine Ops.ex (Ex.move rfl) rfl rfl rfl ?_
    refine Ops.ex (Ex.add rfl rfl) rfl rfl rfl ?_
    refine Ops.ex (Ex.cto8 rfl Try.underlying3 Try.underlying5) rfl rfl rfl ?_
    refine Ops.sliceF [vu8 (toU8 (wr (97 + (i7 : Int))))] hst68 rfl Try.underlying50 sz5 zr5 rfl rfl (by kernel_rfl) rfl (by simp [Value.oneCell']) rfl (fun A69 w69 hst69 => ?_)
    have f69 : Cs tU8 z58 [vu8 (toU8 (wr (97 + (i7 : Int))))] [toU8 (wr (97 + (i7 : Int)))] := (Cs.cons (c := [vu8 (toU8 (wr (97 + (i7 : Int))))]) rfl (Cs.nil _ _))
    refine Ops.str8 (own_slh f69 rfl (hst69.get (i := 1) rfl)) rfl Try.underlying50 Try.underlying5 Try.underlying9 rfl (?_)
    refine Ops.ex (Ex.fieldAddr rfl Try.underlying57 rfl sz5) rfl rfl rfl ?_
    refine Ops.load rfl Try.underlying5 rfl (hst69.cell (i := 2) rfl rfl) rfl ?_
    refine Ops.ex (Ex.rem8 (a := a7.Kind) (b := 3) rfl rfl (by decide)) rfl rfl rfl ?_
    refine Ops.ex (Ex.cu8 rfl Try.underlying5 Try.underlying35) rfl rfl rfl ?_
    refine Ops.ex (Ex.fieldAddr rfl Try.underlying57 rfl sz5) rfl rfl rfl ?_
    refine Ops.load rfl Try.underlying5 rfl (hst69.cell (i := 2) rfl rfl) rfl ?_
    refine Ops.ex (Ex.rem8 (a := a7.From) (b := 24) rfl rfl (by decide)) rfl rfl rfl ?_
    refine Ops.ex (Ex.cu8 rfl Try.underlying5 Try.underlying3) rfl rfl rfl ?_
    refine Ops.ex (Ex.build [vs [toU8 (wr (97 + (i7 : Int)))], vi ((a7.Kind % 3).toNat : Int), vi ((a7.From % 24).toNat : Int), vi 0] rfl Try.underlying37 zr37 (pl37 Try.underlying37) (by kernel_rfl)) rfl rfl rfl ?_
    refine Ops.allocF [vs [], vi 0, vi 0, vi 0] hst69 zr37 rfl rfl (fun g70 w70 hst70 => ?_)
    refine Ops.store 1 [vs [toU8 (wr (97 + (i7 : Int)))], vi ((a7.Kind % 3).toNat : Int), vi ((a7.From % 24).toNat : Int), vi 0] hst70 rfl rfl rfl rfl sz37 rfl (by simp [Value.oneCell']) (by simp) (fun w71 hst71 => ?_)
    refine Ops.nil ?_
    refine Run.seq ?_
    refine Run.region ?_
    refine Ops.ex (Ex.fieldAddr rfl Try.underlying37 rfl sz3) rfl rfl rfl ?_
    refine Ops.load rfl Try.underlying3 rfl (hst71.cell (i := 1) rfl rfl) rfl ?_
    refine Ops.ex (Ex.fieldAddr rfl Try.underlying57 rfl sz5) rfl rfl rfl ?_
    refine Ops.load rfl Try.underlying5 rfl (hst71.cell (i := 3) rfl rfl) rfl ?_
    refine Ops.ex (Ex.rem8 (a := a7.Long) (b := 9) rfl rfl (by decide)) rfl rfl rfl ?_
    refine Ops.ex (Ex.cu8 rfl Try.underlying5 Try.underlying3) rfl rfl rfl ?_
    refine Ops.ex (Ex.add rfl rfl) rfl rfl rfl ?_
    refine Ops.ex (Ex.fieldAddr rfl Try.underlying37 rfl sz3) rfl rfl rfl ?_
    refine Ops.store 1 [vi (wr (((a7.From % 24).toNat : Int) + ((a7.Long % 9).toNat : Int)))] hst71 rfl rfl rfl rfl sz3 rfl (by simp [Value.oneCell']) (by simp) (fun w72 hst72 => ?_)
    refine Ops.nil ?_
    refine Run.seq ?_
    refine Run.seq ?_
    refine Run.region ?_
    refine Ops.ex (Ex.fieldAddr rfl Try.underlying37 rfl sz35) rfl rfl rfl ?_
    refine Ops.load rfl Try.underlying35 rfl (hst72.cell (i := 1) rfl rfl) rfl ?_
    refine Ops.ex (Ex.eqlI rfl rfl) rfl rfl rfl ?_
    refine Ops.nil ?_
    have hm75 := Le.refl z58
    apply Run.jn (fun e' w' => ∃ (x77 : Int) (z76 : Zp), go_law11_Set.j1 l59 i7 a7 nxb7 x77 = some r ∧ e' = [(4, .pointer (some ⟨g3, 0, none⟩)), (5, .pointer (some ⟨g4, 0, none⟩)), (8, .pointer (some ⟨g70, 0, none⟩)), (17, .slice A6 l6.length c6), (18, vi (l6.length : Int)), (19, vi (i7 : Int))] ∧ Le z58 z76 ∧ Le z0 z76 ∧ Ht w0 (frz z76 :: (blk g70 [vs [toU8 (wr (97 + (i7 : Int)))], vi ((a7.Kind % 3).toNat : Int), vi ((a7.From % 24).toNat : Int), vi x77] 37) :: (orow 37 4 (.slice A59 l59.length c59) l59.length d59) :: (blk g4 [.slice A59 l59.length c59, vi ((p1 % 12).toNat : Int)] 27) :: (blk g3 [.slice none 0 0, vi 0] 27) :: X) w')
    · intro hj73
      refine Run.cond rfl (fun hc => ?_) (fun hc => ?_)
      · replace hf := ifT (dec_T hc) hf
        refine Run.region ?_
        refine Ops.ex (Ex.fieldAddr rfl Try.underlying37 rfl sz3) rfl rfl rfl ?_
        refine Ops.load rfl Try.underlying3 rfl (hst72.cell (i := 1) rfl rfl) rfl ?_
        refine Ops.ex (Ex.fieldAddr rfl Try.underlying37 rfl sz3) rfl rfl rfl ?_
        refine Ops.store 1 [vi ((a7.From % 24).toNat : Int)] hst72 rfl rfl rfl rfl sz3 rfl (by simp [Value.oneCell']) (by simp) (fun w78 hst78 => ?_)
        refine Ops.nil ?_
        exact Run.sub (by exact subB_spec ⟨rfl, rfl, rfl, rfl, rfl, rfl, trivial⟩) (hj73 _ _ ⟨((a7.From % 24).toNat : Int), z58, hf, rfl, hm75, hz62, (St.forget (St.forget hst78 3) 2)⟩)
      · replace hf := ifF (dec_F hc) hf
        refine Run.skip ?_
        exact Run.sub (by exact subB_spec ⟨rfl, rfl, rfl, rfl, rfl, rfl, trivial⟩) (hj73 _ _ ⟨wr (((a7.From % 24).toNat : Int) + ((a7.Long % 9).toNat : Int)), z58, hf, rfl, hm75, hz62, (St.forget (St.forget hst72 3) 2)⟩)
    · rintro e' w79 ⟨x77, z76, hf, rfl, hz79, hy79_0, hst79⟩
      replace f6 := f6.mono hz79; replace f59 := f59.mono hz79
      unfold go_law11_Set.j1 at hf
      refine Run.region ?_
      refine Ops.ex (Ex.fieldAddr rfl Try.underlying27 rfl sz25) rfl rfl rfl ?_
      refine Ops.load rfl Try.underlying25 rfl (hst79.cell (i := 3) rfl rfl) rfl ?_
      refine Ops.loadAgg _ rfl Try.underlying37 rfl sz37 rfl (hst79.cells (i := 1) rfl 0 4) rfl ?_
      refine Ops.sliceF [vs [toU8 (wr (97 + (i7 : Int)))], vi ((a7.Kind % 3).toNat : Int), vi ((a7.From % 24).toNat : Int), vi x77] hst79 rfl Try.underlying25 sz37 zr37 rfl rfl (by kernel_rfl) rfl (by simp [Value.oneCell']) rfl (fun A80 w80 hst80 => ?_)
      have f80 : Cs tapiRef z76 [vs [toU8 (wr (97 + (i7 : Int)))], vi ((a7.Kind % 3).toNat : Int), vi ((a7.From % 24).toNat : Int), vi x77] [(⟨[toU8 (wr (97 + (i7 : Int)))], ((a7.Kind % 3).toNat : Int), ((a7.From % 24).toNat : Int), x77⟩ : apiRef)] := (Cs.cons (c := [vs [toU8 (wr (97 + (i7 : Int)))], vi ((a7.Kind % 3).toNat : Int), vi ((a7.From % 24).toNat : Int), vi x77]) rfl (Cs.nil _ _))
      obtain ⟨l81, hy81, hf⟩ := bnd hf
      refine Ops.app 3 hst80 rfl f59 rfl (own_slh f80 rfl (hst80.get (i := 1) rfl)) rfl hy81 rfl rfl rfl rfl Try.underlying25 inf37 rfl (by decide) (by decide) rfl (fun A81 c81 d81 w81 f81 hst81 => ?_)
      refine Ops.ex (Ex.fieldAddr rfl Try.underlying27 rfl sz25) rfl rfl rfl ?_
      refine Ops.store 4 [.slice A81 l81.length c81] hst81 rfl rfl rfl rfl sz25 rfl (by simp [Value.oneCell']) (by simp) (fun w82 hst82 => ?_)
      refine Ops.nil ?_
      refine Run.endBlk ?_
      refine Run.region ?_
      refine Ops.ex (Ex.add rfl rfl) rfl rfl rfl ?_
      refine Ops.ex (Ex.move rfl) rfl rfl rfl ?_
      refine Ops.nil ?_
      refine Run.re 19 rfl (congrArg vi (wr_succ' hl7 hc7)) ?_
      exact Run.sub (by exact subB_spec ⟨rfl, rfl, rfl, rfl, rfl, trivial⟩) (Run.stop ⟨l6.length - (i7 + 1), by omega, i7 + 1, l81, A81, c81, d81, z76, rfl, by omega, (hnxb7 _).symm.trans hf, rfl, hy79_0, f81, (St.forget (St.forget hst82 2) 1)⟩)
  · replace hf := forL_out hf (nlt_of_dec hc)
    try dsimp only at hf
    refine Run.exit _ rfl ?_
    refine Run.seq ?_
    refine Run.region ?_
    refine Ops.loadAgg _ rfl Try.underlying27 rfl sz27 rfl (hst62.cells (i := 2) rfl 0 2) rfl ?_
    refine Ops.store 3 [.slice A59 l59.length c59, vi ((p1 % 12).toNat : Int)] hst62 rfl rfl rfl rfl sz27 rfl (by simp [Value.oneCell']) (by simp) (fun w83 hst83 => ?_)
    refine Ops.nil ?_
    obtain ⟨z84, hz84, f84, hst84⟩ := St.freeze (τ := tapiRef) (xs := l59) hst83 f59 rfl
    replace f6 := f6.mono hz84
    replace hz62 := hz62.trans hz84
    obtain rfl := Option.some.inj hf
    exact Run.retV [.agg #[.slice A59 l59.length c59, vi ((p1 % 12).toNat : Int)]] rfl ⟨⟨_, rfl, run_loadN _ Try.underlying27 rfl sz27 rfl (hst84.cells (i := 2) rfl 0 2)⟩, trivial⟩ ⟨z84, A59, c59, rfl, hz62, f84, (St.forget (St.forget hst84 2) 1)⟩
def go_law11_of.j1 (nxb5 : (List apiRef) → Option (List apiRef)) (l1063 : List apiRef) : Option (List apiRef) :=
  nxb5 l1063
def go_law11_of.j2 (nxb5 : (List apiRef) → Option (List apiRef)) (l1097 : List apiRef) : Option (List apiRef) :=
  nxb5 l1097
def go_law11_of.j3 (nxb5 : (List apiRef) → Option (List apiRef)) (l1131 : List apiRef) : Option (List apiRef) :=
  nxb5 l1131
def go_law11_of.b2 (l767 : List apiRef) (a5 : apiRef) (nxb5 : (List apiRef) → Option (List apiRef)) : Int → (Int → Option (List apiRef)) → Option (List apiRef) :=
  fun x1026 nxb778 => if 0 < x1026 then ((atI l767 (wr (x1026 - 1))).bind fun y1030 => if a5.From < y1030.From then (nxb778 (wr (x1026 - 1))) else (if y1030.From = a5.From then (if a5.To < y1030.To then (nxb778 (wr (x1026 - 1))) else ((cutI l767 0 x1026).bind fun l1065 => (cutI l767 x1026 (l767.length : Int)).bind fun l1066 => (apB 40 [] l1065).bind fun l1067 => (apB 40 l1067 [a5]).bind fun l1071 => (apB 40 l1071 l1066).bind fun l1072 => go_law11_of.j1 nxb5 l1072)) else ((cutI l767 0 x1026).bind fun l1099 => (cutI l767 x1026 (l767.length : Int)).bind fun l1100 => (apB 40 [] l1099).bind fun l1101 => (apB 40 l1101 [a5]).bind fun l1105 => (apB 40 l1105 l1100).bind fun l1106 => go_law11_of.j2 nxb5 l1106))) else ((cutI l767 0 x1026).bind fun l1133 => (cutI l767 x1026 (l767.length : Int)).bind fun l1134 => (apB 40 [] l1133).bind fun l1135 => (apB 40 l1135 [a5]).bind fun l1139 => (apB 40 l1139 l1134).bind fun l1140 => go_law11_of.j3 nxb5 l1140)
def go_law11_of.b1 (p1 : Int) (i5 : Nat) (a5 : apiRef) : (List apiRef) → (List apiRef → Option (List apiRef)) → Option (List apiRef) :=
  fun l767 nxb5 => if a5.Kind = p1 then (loopF (go_law11_of.b2 l767 a5 nxb5) fuel (l767.length : Int)) else (nxb5 l767)
def go_law11_of (p0 : editsSet) (p1 : Int) : Option (List apiRef) :=
  forL (go_law11_of.b1 p1) (fun l767 => some l767) 0 p0.Refs []
set_option maxRecDepth 100000 in
set_option maxHeartbeats 4000000 in
theorem go_law11_of.walk {w0 w : World} {X : List Res} {z0 : Zp} {p0 : editsSet} {A1 : Option Addr} {c1 : Nat} {p1 : Int} {r : List apiRef} (hst : Ht w0 (frz z0 :: X) w) (f1 : Sl tapiRef z0 A1 c1 p0.Refs) (hf : go_law11_of p0 p1 = some r) :
    Calls Try.prog 14 #[.agg #[.slice A1 p0.Refs.length c1, vi p0.Floor], vi p1] w fun e w' => ∃ (z' : Zp) (A9001 : Option Addr) (c9001 : Nat), e = .returned (.slice A9001 r.length c9001) ∧ Le z0 z' ∧ Sl tapiRef z' A9001 c9001 r ∧ Ht w0 (frz z' :: X) w' := by
  refine calls_np Try.func14 rfl rfl ?_
  have hle0 := Le.refl z0
  unfold go_law11_of at hf
  refine Run.seq ?_
  refine Run.region ?_
  refine Ops.boxF [.slice A1 p0.Refs.length c1, vi p0.Floor] hst rfl rfl rfl (fun g4 w4 hst4 => ?_)
  refine Ops.ex (Ex.assign rfl) rfl rfl rfl ?_
  refine Ops.nil ?_
  refine Run.seq ?_
  refine Run.region ?_
  refine Ops.ex (Ex.assign rfl) rfl rfl rfl ?_
  refine Ops.nil ?_
  refine Run.seq ?_
  refine Run.seq ?_
  refine Run.region ?_
  refine Ops.ex (Ex.fieldAddr rfl Try.underlying27 rfl sz25) rfl rfl rfl ?_
  refine Ops.load rfl Try.underlying25 rfl (hst4.cell (i := 1) rfl rfl) rfl ?_
  refine Ops.ex (Ex.len' rfl rfl rfl Try.underlying25) rfl rfl rfl ?_
  refine Ops.ex (Ex.move rfl) rfl rfl rfl ?_
  refine Ops.nil ?_
  refine Run.block ?_
  have hc5 := f1.cap
  have hst768 := hst4.row0 37 4
  refine Run.sub (e' := [(1, vi p1), (5, .slice none 0 0), (10, .slice A1 p0.Refs.length c1), (11, vi (p0.Refs.length : Int)), (12, vi ((0 : Nat) : Int))]) (subB_spec ⟨rfl, rfl, rfl, rfl, rfl, trivial⟩) ?_
  refine Run.loop (fun mb5 => (fun e' w' => ∃ (i5 : Nat) (l767 : List apiRef) (A767 : Option Addr) (c767 : Nat) (d767 : List Value) (z766 : Zp), mb5 = p0.Refs.length - i5 ∧ i5 ≤ p0.Refs.length ∧ forL (go_law11_of.b1 p1) (fun l767 => some l767) i5 (p0.Refs.drop i5) l767 = some r ∧ e' = [(1, vi p1), (5, .slice A767 l767.length c767), (10, .slice A1 p0.Refs.length c1), (11, vi (p0.Refs.length : Int)), (12, vi (i5 : Int))] ∧ Le z0 z766 ∧ Cs tapiRef z766 d767 l767 ∧ Ht w0 (frz z766 :: (orow 37 4 (.slice A767 l767.length c767) l767.length d767) :: X) w')) p0.Refs.length ⟨0, [], none, 0, [], z0, rfl, Nat.zero_le _, hf, rfl, hle0, (Cs.nil _ _), (St.forget hst768 2)⟩ ?_
  rintro _ e' w770 ⟨i5, l767, A767, c767, d767, z766, rfl, hi5, hf, rfl, hz770, f767, hst770⟩
  replace f1 := f1.mono hz770
  refine Run.seq ?_
  refine Run.region ?_
  refine Ops.ex (Ex.lss rfl rfl) rfl rfl rfl ?_
  refine Ops.nil ?_
  refine Run.seq ?_
  refine Run.cond rfl (fun hc => ?_) (fun hc => ?_)
  · have hl5 := lt_of_dec hc
    obtain ⟨a5, nxb5, ha5, hnxb5, hf⟩ := forL_in hf hl5
    unfold go_law11_of.b1 at hf
    try dsimp only at hf
    refine Run.skip ?_
    refine Run.seq ?_
    refine Run.block ?_
    refine Run.seq ?_
    refine Run.region ?_
    obtain ⟨g775, p775, o775, cs775, hA775, ho775, hr775, f775⟩ := SlH.elem f1.toH (atI_nat ha5)
    obtain rfl := hr775
    refine Ops.ex (Ex.ixA hA775 ho775 (atI_nat ha5) rfl rfl rfl Try.underlying25 sz37) rfl rfl rfl ?_
    refine Ops.loadAgg [vs a5.Name, vi a5.Kind, vi a5.From, vi a5.To] rfl Try.underlying37 rfl sz37 rfl (cells_of_zc rfl (f775.mono hst770.le)) rfl ?_
    refine Ops.allocF [vs [], vi 0, vi 0, vi 0] hst770 zr37 rfl rfl (fun g776 w776 hst776 => ?_)
    refine Ops.store 1 [vs a5.Name, vi a5.Kind, vi a5.From, vi a5.To] hst776 rfl rfl rfl rfl sz37 rfl (by simp [Value.oneCell']) (by simp) (fun w777 hst777 => ?_)
    refine Ops.nil ?_
    refine Run.seq ?_
    refine Run.seq ?_
    refine Run.region ?_
    refine Ops.ex (Ex.fieldAddr rfl Try.underlying37 rfl sz35) rfl rfl rfl ?_
    refine Ops.load rfl Try.underlying35 rfl (hst777.cell (i := 1) rfl rfl) rfl ?_
    refine Ops.ex (Ex.move rfl) rfl rfl rfl ?_
    refine Ops.ex (Ex.neqI rfl rfl) rfl rfl rfl ?_
    refine Ops.nil ?_
    refine Run.cond rfl (fun hc => ?_) (fun hc => ?_)
    · replace hf := ifF (neq_T hc) hf
      refine Run.exit _ rfl ?_
      refine Run.region ?_
      refine Ops.ex (Ex.add rfl rfl) rfl rfl rfl ?_
      refine Ops.ex (Ex.move rfl) rfl rfl rfl ?_
      refine Ops.nil ?_
      refine Run.re 12 rfl (congrArg vi (wr_succ' hl5 hc5)) ?_
      exact Run.sub (by exact subB_spec ⟨rfl, rfl, rfl, rfl, rfl, trivial⟩) (Run.stop ⟨p0.Refs.length - (i5 + 1), by omega, i5 + 1, l767, A767, c767, d767, z766, rfl, by omega, (hnxb5 _).symm.trans hf, rfl, hz770, f767, (St.forget hst777 1)⟩)
    · replace hf := ifT (neq_F hc) hf
      refine Run.skip ?_
      refine Run.seq ?_
      refine Run.region ?_
      refine Ops.ex (Ex.move rfl) rfl rfl rfl ?_
      refine Ops.ex (Ex.len' rfl rfl rfl Try.underlying25) rfl rfl rfl ?_
      refine Ops.ex (Ex.assign rfl) rfl rfl rfl ?_
      refine Ops.nil ?_
      refine Run.seq ?_
      refine Run.block ?_
      have hm779 := Le.refl z766
      refine Run.sub (e' := [(1, vi p1), (5, .slice A767 l767.length c767), (7, .pointer (some ⟨g776, 0, none⟩)), (8, vi (l767.length : Int)), (10, .slice A1 p0.Refs.length c1), (11, vi (p0.Refs.length : Int)), (12, vi (i5 : Int))]) (subB_spec ⟨rfl, rfl, rfl, rfl, rfl, rfl, rfl, trivial⟩) ?_
      refine Run.loop (fun mb778 => (fun e' w' => ∃ (x1026 : Int) (z1025 : Zp), loopF (go_law11_of.b2 l767 a5 nxb5) mb778 x1026 = some r ∧ e' = [(1, vi p1), (5, .slice A767 l767.length c767), (7, .pointer (some ⟨g776, 0, none⟩)), (8, vi x1026), (10, .slice A1 p0.Refs.length c1), (11, vi (p0.Refs.length : Int)), (12, vi (i5 : Int))] ∧ Le z766 z1025 ∧ Le z0 z1025 ∧ Ht w0 (frz z1025 :: (blk g776 [vs a5.Name, vi a5.Kind, vi a5.From, vi a5.To] 37) :: (orow 37 4 (.slice A767 l767.length c767) l767.length d767) :: X) w')) fuel ⟨(l767.length : Int), z766, hf, rfl, hm779, hz770, hst777⟩ ?_
      rintro mb778 e' w1027 ⟨x1026, z1025, hf, rfl, hz1027, hy1027_0, hst1027⟩
      replace f1 := f1.mono hz1027; replace f767 := f767.mono hz1027
      obtain ⟨mb778', nxb778, rfl, hnxb778, hf⟩ := loopF_in hf
      unfold go_law11_of.b2 at hf
      try dsimp only at hf
      refine Run.seq ?_
      refine Run.seq ?_
      have hm1029 := Le.refl z1025
      refine Run.drawH [([], fun w => ∃ ζ Y, Le z1025 ζ ∧ Ht w0 (frz ζ :: (blk g776 [vs a5.Name, vi a5.Kind, vi a5.From, vi a5.To] 37) :: (orow 37 4 (.slice A767 l767.length c767) l767.length d767) :: Y) w)] (by kernel_rfl) hst1027 (fun w1028 hst1028 => ?_)
      have hS0 := (⟨_, _, (Le.refl _), (St.up (St.up (St.up hst1028 2 rfl) 2 rfl) 2 rfl)⟩ : (fun w => ∃ ζ Y, Le z1025 ζ ∧ Ht w0 (frz ζ :: (blk g776 [vs a5.Name, vi a5.Kind, vi a5.From, vi a5.To] 37) :: (orow 37 4 (.slice A767 l767.length c767) l767.length d767) :: Y) w) _)
      refine Any.takeE 0 rfl rfl rfl rfl (by kernel_rfl) (fun _ _ _ _ _ h => h) ((Ex.move rfl).s) ?_
      refine Any.takeE 1 rfl rfl rfl rfl (by kernel_rfl) (fun _ _ _ _ _ h => h) ((Ex.gtr rfl rfl).s) ?_
      refine Any.takeE 2 rfl rfl rfl rfl (by kernel_rfl) (fun _ _ _ _ _ h => h) ((Ex.move rfl).s) ?_
      refine Any.case 24 rfl (fun hc => ?_) (fun hc => ?_)
      · replace hf := ifT (dec_T hc) hf
        refine Any.takeE 3 rfl rfl rfl rfl (by kernel_rfl) (fun _ _ _ _ _ h => h) (ExS.g ((Ex.move rfl).s)) ?_
        refine Any.takeE 4 rfl rfl rfl rfl (by kernel_rfl) (fun _ _ _ _ _ h => h) (ExS.g ((Ex.move rfl).s)) ?_
        refine Any.takeE 5 rfl rfl rfl rfl (by kernel_rfl) (fun _ _ _ _ _ h => h) (ExS.g ((Ex.sub rfl rfl).s)) ?_
        obtain ⟨y1030, hy1030, hf⟩ := bnd hf
        obtain ⟨g1035, p1035, o1035, cs1035, hA1035, ho1035, hr1035, f1035⟩ := own_elem f767 rfl (hst1028.get (i := 2) rfl) hy1030
        obtain rfl := hr1035
        refine Any.takeE 6 rfl rfl rfl rfl (by kernel_rfl) (fun _ _ _ _ _ h => h) (ExS.g ((Ex.ixA hA1035 ho1035 hy1030 rfl rfl rfl Try.underlying25 sz37).s)) ?_
        refine Any.takeE 7 rfl rfl rfl rfl (by kernel_rfl) (fun _ _ _ _ _ h => h) (ExS.g ((Ex.fieldAddr rfl Try.underlying37 rfl sz3).s)) ?_
        refine Any.take 0 8 rfl rfl rfl rfl rfl (by kernel_rfl) (fun _ _ _ _ _ h => h) (ExS.g (ExS.load rfl Try.underlying3 rfl (fun w hS => by obtain ⟨_, _, hz, hs⟩ := hS; exact (f1035 _ (hs.get (i := 2) rfl)) 2 _ rfl))) hS0 ?_
        refine Any.takeE 9 rfl rfl rfl rfl (by kernel_rfl) (fun _ _ _ _ _ h => h) (ExS.g ((Ex.fieldAddr rfl Try.underlying37 rfl sz3).s)) ?_
        refine Any.take 0 10 rfl rfl rfl rfl rfl (by kernel_rfl) (fun _ _ _ _ _ h => h) (ExS.g (ExS.load rfl Try.underlying3 rfl (fun w hS => by obtain ⟨_, _, _, hs⟩ := hS; exact hs.cell (i := 1) rfl rfl))) hS0 ?_
        refine Any.takeE 11 rfl rfl rfl rfl (by kernel_rfl) (fun _ _ _ _ _ h => h) (ExS.g ((Ex.gtr rfl rfl).s)) ?_
        refine Any.takeE 12 rfl rfl rfl rfl (by kernel_rfl) (fun _ _ _ _ _ h => h) (ExS.g ((Ex.move rfl).s)) ?_
        refine Any.case 34 rfl (fun hc => ?_) (fun hc => ?_)
        · replace hf := ifT (dec_T hc) hf
          refine Any.pass 13 rfl rfl rfl rfl (by kernel_rfl) (fun _ _ _ _ _ h => h) ?_
          refine Any.pass 14 rfl rfl rfl rfl (by kernel_rfl) (fun _ _ _ _ _ h => h) ?_
          refine Any.pass 15 rfl rfl rfl rfl (by kernel_rfl) (fun _ _ _ _ _ h => h) ?_
          refine Any.pass 16 rfl rfl rfl rfl (by kernel_rfl) (fun _ _ _ _ _ h => h) ?_
          refine Any.pass 17 rfl rfl rfl rfl (by kernel_rfl) (fun _ _ _ _ _ h => h) ?_
          refine Any.pass 18 rfl rfl rfl rfl (by kernel_rfl) (fun _ _ _ _ _ h => h) ?_
          refine Any.pass 19 rfl rfl rfl rfl (by kernel_rfl) (fun _ _ _ _ _ h => h) ?_
          refine Any.pass 20 rfl rfl rfl rfl (by kernel_rfl) (fun _ _ _ _ _ h => h) ?_
          refine Any.pass 21 rfl rfl rfl rfl (by kernel_rfl) (fun _ _ _ _ _ h => h) ?_
          refine Any.pass 22 rfl rfl rfl rfl (by kernel_rfl) (fun _ _ _ _ _ h => h) ?_
          refine Any.passU 23 rfl rfl rfl rfl rfl (by kernel_rfl) (fun _ _ _ _ _ h => h) ?_
          refine Any.passU 24 rfl rfl rfl rfl rfl (by kernel_rfl) (fun _ _ _ _ _ h => h) ?_
          refine Any.passU 25 rfl rfl rfl rfl rfl (by kernel_rfl) (fun _ _ _ _ _ h => h) ?_
          refine Any.passU 26 rfl rfl rfl rfl rfl (by kernel_rfl) (fun _ _ _ _ _ h => h) ?_
          refine Any.passU 27 rfl rfl rfl rfl rfl (by kernel_rfl) (fun _ _ _ _ _ h => h) ?_
          refine Any.passU 28 rfl rfl rfl rfl rfl (by kernel_rfl) (fun _ _ _ _ _ h => h) ?_
          refine Any.passU 29 rfl rfl rfl rfl rfl (by kernel_rfl) (fun _ _ _ _ _ h => h) ?_
          refine Any.passU 30 rfl rfl rfl rfl rfl (by kernel_rfl) (fun _ _ _ _ _ h => h) ?_
          refine Any.passU 31 rfl rfl rfl rfl rfl (by kernel_rfl) (fun _ _ _ _ _ h => h) ?_
          refine Any.pass 32 rfl rfl rfl rfl (by kernel_rfl) (fun _ _ _ _ _ h => h) ?_
          refine Any.takeE 33 rfl rfl rfl rfl (by kernel_rfl) (fun _ _ _ _ _ h => h) (ExS.g ((Ex.pickT rfl rfl).s)) ?_
          refine Any.takeE 34 rfl rfl rfl rfl (by kernel_rfl) (fun _ _ _ _ _ h => h) ((Ex.pickT rfl rfl).s) ?_
          refine Any.done (by kernel_rfl) ?_
          refine Run.condT rfl rfl ?_
          refine Run.skip ?_
          refine Run.block ?_
          refine Run.region ?_
          refine Ops.ex (Ex.move rfl) rfl rfl rfl ?_
          refine Ops.ex (Ex.sub rfl rfl) rfl rfl rfl ?_
          refine Ops.ex (Ex.assign rfl) rfl rfl rfl ?_
          refine Ops.nil ?_
          refine Run.endBlk ?_
          exact Run.sub (by exact subB_spec ⟨rfl, rfl, rfl, rfl, rfl, rfl, rfl, trivial⟩) (Run.stop ⟨mb778', Nat.lt_succ_self _, wr (x1026 - 1), z1025, (hnxb778 _).symm.trans hf, rfl, hz1027, hy1027_0, hst1028⟩)
        · replace hf := ifF (dec_F hc) hf
          refine Any.takeE 13 rfl rfl rfl rfl (by kernel_rfl) (fun _ _ _ _ _ h => h) (ExS.g ((Ex.move rfl).s)) ?_
          refine Any.takeE 14 rfl rfl rfl rfl (by kernel_rfl) (fun _ _ _ _ _ h => h) (ExS.g ((Ex.move rfl).s)) ?_
          refine Any.takeE 15 rfl rfl rfl rfl (by kernel_rfl) (fun _ _ _ _ _ h => h) (ExS.g ((Ex.sub rfl rfl).s)) ?_
          obtain ⟨g1040, p1040, o1040, cs1040, hA1040, ho1040, hr1040, f1040⟩ := own_elem f767 rfl (hst1028.get (i := 2) rfl) hy1030
          obtain rfl := hr1040
          refine Any.takeE 16 rfl rfl rfl rfl (by kernel_rfl) (fun _ _ _ _ _ h => h) (ExS.g ((Ex.ixA hA1040 ho1040 hy1030 rfl rfl rfl Try.underlying25 sz37).s)) ?_
          refine Any.takeE 17 rfl rfl rfl rfl (by kernel_rfl) (fun _ _ _ _ _ h => h) (ExS.g ((Ex.fieldAddr rfl Try.underlying37 rfl sz3).s)) ?_
          refine Any.take 0 18 rfl rfl rfl rfl rfl (by kernel_rfl) (fun _ _ _ _ _ h => h) (ExS.g (ExS.load rfl Try.underlying3 rfl (fun w hS => by obtain ⟨_, _, hz, hs⟩ := hS; exact (f1040 _ (hs.get (i := 2) rfl)) 2 _ rfl))) hS0 ?_
          refine Any.takeE 19 rfl rfl rfl rfl (by kernel_rfl) (fun _ _ _ _ _ h => h) (ExS.g ((Ex.fieldAddr rfl Try.underlying37 rfl sz3).s)) ?_
          refine Any.take 0 20 rfl rfl rfl rfl rfl (by kernel_rfl) (fun _ _ _ _ _ h => h) (ExS.g (ExS.load rfl Try.underlying3 rfl (fun w hS => by obtain ⟨_, _, _, hs⟩ := hS; exact hs.cell (i := 1) rfl rfl))) hS0 ?_
          refine Any.takeE 21 rfl rfl rfl rfl (by kernel_rfl) (fun _ _ _ _ _ h => h) (ExS.g ((Ex.eqlI rfl rfl).s)) ?_
          refine Any.takeE 22 rfl rfl rfl rfl (by kernel_rfl) (fun _ _ _ _ _ h => h) (ExS.g ((Ex.move rfl).s)) ?_
          refine Any.case 44 rfl (fun hc => ?_) (fun hc => ?_)
          · replace hf := ifT (dec_T hc) hf
            refine Any.takeE 23 rfl rfl rfl rfl (by kernel_rfl) (fun _ _ _ _ _ h => h) (ExS.g ((Ex.move rfl).s)) ?_
            refine Any.takeE 24 rfl rfl rfl rfl (by kernel_rfl) (fun _ _ _ _ _ h => h) (ExS.g ((Ex.move rfl).s)) ?_
            refine Any.takeE 25 rfl rfl rfl rfl (by kernel_rfl) (fun _ _ _ _ _ h => h) (ExS.g ((Ex.sub rfl rfl).s)) ?_
            obtain ⟨g1045, p1045, o1045, cs1045, hA1045, ho1045, hr1045, f1045⟩ := own_elem f767 rfl (hst1028.get (i := 2) rfl) hy1030
            obtain rfl := hr1045
            refine Any.takeE 26 rfl rfl rfl rfl (by kernel_rfl) (fun _ _ _ _ _ h => h) (ExS.g ((Ex.ixA hA1045 ho1045 hy1030 rfl rfl rfl Try.underlying25 sz37).s)) ?_
            refine Any.takeE 27 rfl rfl rfl rfl (by kernel_rfl) (fun _ _ _ _ _ h => h) (ExS.g ((Ex.fieldAddr rfl Try.underlying37 rfl sz3).s)) ?_
            refine Any.take 0 28 rfl rfl rfl rfl rfl (by kernel_rfl) (fun _ _ _ _ _ h => h) (ExS.g (ExS.load rfl Try.underlying3 rfl (fun w hS => by obtain ⟨_, _, hz, hs⟩ := hS; exact (f1045 _ (hs.get (i := 2) rfl)) 3 _ rfl))) hS0 ?_
            refine Any.takeE 29 rfl rfl rfl rfl (by kernel_rfl) (fun _ _ _ _ _ h => h) (ExS.g ((Ex.fieldAddr rfl Try.underlying37 rfl sz3).s)) ?_
            refine Any.take 0 30 rfl rfl rfl rfl rfl (by kernel_rfl) (fun _ _ _ _ _ h => h) (ExS.g (ExS.load rfl Try.underlying3 rfl (fun w hS => by obtain ⟨_, _, _, hs⟩ := hS; exact hs.cell (i := 1) rfl rfl))) hS0 ?_
            refine Any.takeE 31 rfl rfl rfl rfl (by kernel_rfl) (fun _ _ _ _ _ h => h) (ExS.g ((Ex.gtr rfl rfl).s)) ?_
            refine Any.takeE 32 rfl rfl rfl rfl (by kernel_rfl) (fun _ _ _ _ _ h => h) (ExS.g ((Ex.pickT rfl rfl).s)) ?_
            refine Any.takeE 33 rfl rfl rfl rfl (by kernel_rfl) (fun _ _ _ _ _ h => h) (ExS.g ((Ex.pickF rfl rfl).s)) ?_
            refine Any.takeE 34 rfl rfl rfl rfl (by kernel_rfl) (fun _ _ _ _ _ h => h) ((Ex.pickT rfl rfl).s) ?_
            refine Any.done (by kernel_rfl) ?_
            refine Run.cond rfl (fun hc => ?_) (fun hc => ?_)
            · replace hf := ifT (dec_T hc) hf
              refine Run.skip ?_
              refine Run.block ?_
              refine Run.region ?_
              refine Ops.ex (Ex.move rfl) rfl rfl rfl ?_
              refine Ops.ex (Ex.sub rfl rfl) rfl rfl rfl ?_
              refine Ops.ex (Ex.assign rfl) rfl rfl rfl ?_
              refine Ops.nil ?_
              refine Run.endBlk ?_
              exact Run.sub (by exact subB_spec ⟨rfl, rfl, rfl, rfl, rfl, rfl, rfl, trivial⟩) (Run.stop ⟨mb778', Nat.lt_succ_self _, wr (x1026 - 1), z1025, (hnxb778 _).symm.trans hf, rfl, hz1027, hy1027_0, hst1028⟩)
            · replace hf := ifF (dec_F hc) hf
              refine Run.exit _ rfl ?_
              apply Run.jn (fun e' w' => ∃ (l1063 : List apiRef) (A1063 : Option Addr) (c1063 : Nat) (d1063 : List Value) (z1062 : Zp), go_law11_of.j1 nxb5 l1063 = some r ∧ e' = [(1, vi p1), (5, .slice A1063 l1063.length c1063), (10, .slice A1 p0.Refs.length c1), (11, vi (p0.Refs.length : Int)), (12, vi (i5 : Int))] ∧ Le z1025 z1062 ∧ Le z0 z1062 ∧ Le z766 z1062 ∧ Cs tapiRef z1062 d1063 l1063 ∧ Ht w0 (frz z1062 :: (orow 37 4 (.slice A1063 l1063.length c1063) l1063.length d1063) :: X) w')
              · intro hj1046
                refine Run.drawH [([], fun w => ∃ ζ Y, Le z1025 ζ ∧ Ht w0 (frz ζ :: (blk g776 [vs a5.Name, vi a5.Kind, vi a5.From, vi a5.To] 37) :: (orow 37 4 (.slice A767 l767.length c767) l767.length d767) :: Y) w)] (by kernel_rfl) hst1028 (fun w1064 hst1064 => ?_)
                have hS0 := (⟨_, _, (Le.refl _), (St.up (St.up (St.up hst1064 2 rfl) 2 rfl) 2 rfl)⟩ : (fun w => ∃ ζ Y, Le z1025 ζ ∧ Ht w0 (frz ζ :: (blk g776 [vs a5.Name, vi a5.Kind, vi a5.From, vi a5.To] 37) :: (orow 37 4 (.slice A767 l767.length c767) l767.length d767) :: Y) w) _)
                refine Any.takeE 0 rfl rfl rfl rfl (by kernel_rfl) (fun _ _ _ _ _ h => h) ((Ex.move rfl).s) ?_
                refine Any.takeE 1 rfl rfl rfl rfl (by kernel_rfl) (fun _ _ _ _ _ h => h) ((Ex.move rfl).s) ?_
                obtain ⟨l1065, hy1065, hf⟩ := bnd hf
                obtain ⟨hl1065, f1065⟩ := own_pre f767 rfl (hst1064.get (i := 2) rfl) hy1065
                refine Any.takeE 2 rfl rfl rfl rfl (by kernel_rfl) (fun _ _ _ _ _ h => h) ((Ex.preA hl1065 hy1065 rfl rfl Try.underlying25 sz37 rfl rfl).s) ?_
                refine Any.take 0 4 rfl rfl rfl rfl rfl (by kernel_rfl) (fun _ _ _ _ _ h => h) (ExS.loadAgg [vs a5.Name, vi a5.Kind, vi a5.From, vi a5.To] rfl Try.underlying37 rfl sz37 rfl (fun w hS => by obtain ⟨_, _, _, hs⟩ := hS; exact hs.cells (i := 1) rfl 0 4)) hS0 ?_
                refine Any.takeE 7 rfl rfl rfl rfl (by kernel_rfl) (fun _ _ _ _ _ h => h) ((Ex.move rfl).s) ?_
                refine Any.takeE 8 rfl rfl rfl rfl (by kernel_rfl) (fun _ _ _ _ _ h => h) ((Ex.move rfl).s) ?_
                obtain ⟨l1066, hy1066, hf⟩ := bnd hf
                obtain ⟨A1066, c1066, hA1066, hB1066, f1066⟩ := own_sub f767 rfl (hst1064.get (i := 2) rfl) hy1066
                refine Any.takeE 9 rfl rfl rfl rfl (by kernel_rfl) (fun _ _ _ _ _ h => h) ((Ex.subA hA1066 hB1066 hy1066 rfl rfl Try.underlying25 sz37 rfl rfl).s) ?_
                refine Any.all [3, 5] (by kernel_rfl) rfl (fun i hi => ?_)
                simp only [List.mem_cons, List.not_mem_nil, or_false] at hi
                rcases hi with rfl | rfl
                · skip
                  have hst1068 := hst1064.row0 37 4
                  obtain ⟨l1067, hy1067, hf⟩ := bnd hf
                  refine ⟨_, rfl, rfl, One.of_ops rfl ?_⟩
                  refine Ops.app 1 hst1068 rfl (Cs.nil tapiRef z1025) rfl (f1065 _ (hst1068.get (i := 3) rfl)) rfl hy1067 rfl rfl rfl rfl Try.underlying25 inf37 rfl (by decide) (by decide) rfl (fun A1067 c1067 d1067 w1067 f1067 hst1067 => Ops.stop ?_)
                  have hS0 := (⟨_, _, (Le.refl _), (St.up (St.up (St.up hst1067 3 rfl) 3 rfl) 2 rfl)⟩ : (fun w => ∃ ζ Y, Le z1025 ζ ∧ Ht w0 (frz ζ :: (blk g776 [vs a5.Name, vi a5.Kind, vi a5.From, vi a5.To] 37) :: (orow 37 4 (.slice A767 l767.length c767) l767.length d767) :: Y) w) _)
                  refine ⟨⟨.inr (fun _ => hS0), trivial⟩, ?_⟩
                  refine Any.one 5 (by kernel_rfl) rfl rfl (One.of_ops rfl ?_)
                  refine Ops.sliceF [vs a5.Name, vi a5.Kind, vi a5.From, vi a5.To] hst1067 rfl Try.underlying25 sz37 zr37 rfl rfl (by kernel_rfl) rfl (by simp [Value.oneCell']) rfl (fun A1070 w1070 hst1070 => Ops.stop ?_)
                  have f1070 : Cs tapiRef z1025 [vs a5.Name, vi a5.Kind, vi a5.From, vi a5.To] [a5] := (Cs.cons (c := [vs a5.Name, vi a5.Kind, vi a5.From, vi a5.To]) rfl (Cs.nil _ _))
                  have hS0 := (⟨_, _, (Le.refl _), (St.up (St.up (St.up hst1070 4 rfl) 4 rfl) 2 rfl)⟩ : (fun w => ∃ ζ Y, Le z1025 ζ ∧ Ht w0 (frz ζ :: (blk g776 [vs a5.Name, vi a5.Kind, vi a5.From, vi a5.To] 37) :: (orow 37 4 (.slice A767 l767.length c767) l767.length d767) :: Y) w) _)
                  refine ⟨⟨.inr (fun _ => hS0), trivial⟩, ?_⟩
                  obtain ⟨l1071, hy1071, hf⟩ := bnd hf
                  refine Any.one 6 (by kernel_rfl) rfl rfl (One.of_ops rfl ?_)
                  refine Ops.app 2 hst1070 rfl f1067 rfl (own_slh f1070 rfl (hst1070.get (i := 1) rfl)) rfl hy1071 rfl rfl rfl rfl Try.underlying25 inf37 rfl (by decide) (by decide) rfl (fun A1071 c1071 d1071 w1071 f1071 hst1071 => Ops.stop ?_)
                  have hS0 := (⟨_, _, (Le.refl _), (St.up (St.up (St.up hst1071 4 rfl) 4 rfl) 2 rfl)⟩ : (fun w => ∃ ζ Y, Le z1025 ζ ∧ Ht w0 (frz ζ :: (blk g776 [vs a5.Name, vi a5.Kind, vi a5.From, vi a5.To] 37) :: (orow 37 4 (.slice A767 l767.length c767) l767.length d767) :: Y) w) _)
                  refine ⟨⟨.inr (fun _ => hS0), trivial⟩, ?_⟩
                  obtain ⟨l1072, hy1072, hf⟩ := bnd hf
                  refine Any.one 10 (by kernel_rfl) rfl rfl (One.of_ops rfl ?_)
                  refine Ops.app 2 hst1071 rfl f1071 rfl (f1066 _ (hst1071.get (i := 4) rfl)) rfl hy1072 rfl rfl rfl rfl Try.underlying25 inf37 rfl (by decide) (by decide) rfl (fun A1072 c1072 d1072 w1072 f1072 hst1072 => Ops.stop ?_)
                  have hS0 := (⟨_, _, (Le.refl _), (St.up (St.up (St.up hst1072 4 rfl) 4 rfl) 2 rfl)⟩ : (fun w => ∃ ζ Y, Le z1025 ζ ∧ Ht w0 (frz ζ :: (blk g776 [vs a5.Name, vi a5.Kind, vi a5.From, vi a5.To] 37) :: (orow 37 4 (.slice A767 l767.length c767) l767.length d767) :: Y) w) _)
                  refine ⟨⟨.inr (fun _ => hS0), trivial⟩, ?_⟩
                  refine Any.takeE 11 rfl rfl rfl rfl (by kernel_rfl) (fun _ _ _ _ _ h => h) ((Ex.assign rfl).s) ?_
                  refine Any.done (by kernel_rfl) ?_
                  exact Run.sub (by exact subB_spec ⟨rfl, rfl, rfl, rfl, rfl, trivial⟩) (hj1046 _ _ ⟨l1072, A1072, c1072, d1072, z1025, hf, rfl, hm1029, hy1027_0, hz1027, f1072, (St.forget (St.forget (St.forget hst1072 4) 3) 1)⟩)
                · skip
                  refine ⟨_, rfl, rfl, One.of_ops rfl ?_⟩
                  refine Ops.sliceF [vs a5.Name, vi a5.Kind, vi a5.From, vi a5.To] hst1064 rfl Try.underlying25 sz37 zr37 rfl rfl (by kernel_rfl) rfl (by simp [Value.oneCell']) rfl (fun A1073 w1073 hst1073 => Ops.stop ?_)
                  have f1073 : Cs tapiRef z1025 [vs a5.Name, vi a5.Kind, vi a5.From, vi a5.To] [a5] := (Cs.cons (c := [vs a5.Name, vi a5.Kind, vi a5.From, vi a5.To]) rfl (Cs.nil _ _))
                  have hS0 := (⟨_, _, (Le.refl _), (St.up (St.up (St.up hst1073 3 rfl) 3 rfl) 2 rfl)⟩ : (fun w => ∃ ζ Y, Le z1025 ζ ∧ Ht w0 (frz ζ :: (blk g776 [vs a5.Name, vi a5.Kind, vi a5.From, vi a5.To] 37) :: (orow 37 4 (.slice A767 l767.length c767) l767.length d767) :: Y) w) _)
                  refine ⟨⟨.inr (fun _ => hS0), trivial⟩, ?_⟩
                  have hst1075 := hst1073.row0 37 4
                  obtain ⟨l1074, hy1074, hf⟩ := bnd hf
                  refine Any.one 3 (by kernel_rfl) rfl rfl (One.of_ops rfl ?_)
                  refine Ops.app 1 hst1075 rfl (Cs.nil tapiRef z1025) rfl (f1065 _ (hst1075.get (i := 4) rfl)) rfl hy1074 rfl rfl rfl rfl Try.underlying25 inf37 rfl (by decide) (by decide) rfl (fun A1074 c1074 d1074 w1074 f1074 hst1074 => Ops.stop ?_)
                  have hS0 := (⟨_, _, (Le.refl _), (St.up (St.up (St.up hst1074 4 rfl) 4 rfl) 2 rfl)⟩ : (fun w => ∃ ζ Y, Le z1025 ζ ∧ Ht w0 (frz ζ :: (blk g776 [vs a5.Name, vi a5.Kind, vi a5.From, vi a5.To] 37) :: (orow 37 4 (.slice A767 l767.length c767) l767.length d767) :: Y) w) _)
                  refine ⟨⟨.inr (fun _ => hS0), trivial⟩, ?_⟩
                  obtain ⟨l1077, hy1077, hf⟩ := bnd hf
                  refine Any.one 6 (by kernel_rfl) rfl rfl (One.of_ops rfl ?_)
                  refine Ops.app 1 hst1074 rfl f1074 rfl (own_slh f1073 rfl (hst1074.get (i := 2) rfl)) rfl hy1077 rfl rfl rfl rfl Try.underlying25 inf37 rfl (by decide) (by decide) rfl (fun A1077 c1077 d1077 w1077 f1077 hst1077 => Ops.stop ?_)
                  have hS0 := (⟨_, _, (Le.refl _), (St.up (St.up (St.up hst1077 4 rfl) 4 rfl) 2 rfl)⟩ : (fun w => ∃ ζ Y, Le z1025 ζ ∧ Ht w0 (frz ζ :: (blk g776 [vs a5.Name, vi a5.Kind, vi a5.From, vi a5.To] 37) :: (orow 37 4 (.slice A767 l767.length c767) l767.length d767) :: Y) w) _)
                  refine ⟨⟨.inr (fun _ => hS0), trivial⟩, ?_⟩
                  obtain ⟨l1078, hy1078, hf⟩ := bnd hf
                  refine Any.one 10 (by kernel_rfl) rfl rfl (One.of_ops rfl ?_)
                  refine Ops.app 1 hst1077 rfl f1077 rfl (f1066 _ (hst1077.get (i := 4) rfl)) rfl hy1078 rfl rfl rfl rfl Try.underlying25 inf37 rfl (by decide) (by decide) rfl (fun A1078 c1078 d1078 w1078 f1078 hst1078 => Ops.stop ?_)
                  have hS0 := (⟨_, _, (Le.refl _), (St.up (St.up (St.up hst1078 4 rfl) 4 rfl) 2 rfl)⟩ : (fun w => ∃ ζ Y, Le z1025 ζ ∧ Ht w0 (frz ζ :: (blk g776 [vs a5.Name, vi a5.Kind, vi a5.From, vi a5.To] 37) :: (orow 37 4 (.slice A767 l767.length c767) l767.length d767) :: Y) w) _)
                  refine ⟨⟨.inr (fun _ => hS0), trivial⟩, ?_⟩
                  refine Any.takeE 11 rfl rfl rfl rfl (by kernel_rfl) (fun _ _ _ _ _ h => h) ((Ex.assign rfl).s) ?_
                  refine Any.done (by kernel_rfl) ?_
                  exact Run.sub (by exact subB_spec ⟨rfl, rfl, rfl, rfl, rfl, trivial⟩) (hj1046 _ _ ⟨l1078, A1078, c1078, d1078, z1025, hf, rfl, hm1029, hy1027_0, hz1027, f1078, (St.forget (St.forget (St.forget hst1078 4) 3) 2)⟩)
              · rintro e' w1079 ⟨l1063, A1063, c1063, d1063, z1062, hf, rfl, hz1079, hy1079_0, hy1079_1, f1063, hst1079⟩
                replace f1 := f1.mono hz1079
                unfold go_law11_of.j1 at hf
                refine Run.endBlk ?_
                refine Run.region ?_
                refine Ops.ex (Ex.add rfl rfl) rfl rfl rfl ?_
                refine Ops.ex (Ex.move rfl) rfl rfl rfl ?_
                refine Ops.nil ?_
                refine Run.re 12 rfl (congrArg vi (wr_succ' hl5 hc5)) ?_
                exact Run.sub (by exact subB_spec ⟨rfl, rfl, rfl, rfl, rfl, trivial⟩) (Run.stop ⟨p0.Refs.length - (i5 + 1), by omega, i5 + 1, l1063, A1063, c1063, d1063, z1062, rfl, by omega, (hnxb5 _).symm.trans hf, rfl, hy1079_0, f1063, hst1079⟩)
          · replace hf := ifF (dec_F hc) hf
            refine Any.pass 23 rfl rfl rfl rfl (by kernel_rfl) (fun _ _ _ _ _ h => h) ?_
            refine Any.pass 24 rfl rfl rfl rfl (by kernel_rfl) (fun _ _ _ _ _ h => h) ?_
            refine Any.pass 25 rfl rfl rfl rfl (by kernel_rfl) (fun _ _ _ _ _ h => h) ?_
            refine Any.pass 26 rfl rfl rfl rfl (by kernel_rfl) (fun _ _ _ _ _ h => h) ?_
            refine Any.pass 27 rfl rfl rfl rfl (by kernel_rfl) (fun _ _ _ _ _ h => h) ?_
            refine Any.pass 28 rfl rfl rfl rfl (by kernel_rfl) (fun _ _ _ _ _ h => h) ?_
            refine Any.pass 29 rfl rfl rfl rfl (by kernel_rfl) (fun _ _ _ _ _ h => h) ?_
            refine Any.pass 30 rfl rfl rfl rfl (by kernel_rfl) (fun _ _ _ _ _ h => h) ?_
            refine Any.pass 31 rfl rfl rfl rfl (by kernel_rfl) (fun _ _ _ _ _ h => h) ?_
            refine Any.takeE 32 rfl rfl rfl rfl (by kernel_rfl) (fun _ _ _ _ _ h => h) (ExS.g ((Ex.pickF rfl rfl).s)) ?_
            refine Any.takeE 33 rfl rfl rfl rfl (by kernel_rfl) (fun _ _ _ _ _ h => h) (ExS.g ((Ex.pickF rfl rfl).s)) ?_
            refine Any.takeE 34 rfl rfl rfl rfl (by kernel_rfl) (fun _ _ _ _ _ h => h) ((Ex.pickT rfl rfl).s) ?_
            refine Any.done (by kernel_rfl) ?_
            refine Run.condF rfl rfl ?_
            refine Run.exit _ rfl ?_
            apply Run.jn (fun e' w' => ∃ (l1097 : List apiRef) (A1097 : Option Addr) (c1097 : Nat) (d1097 : List Value) (z1096 : Zp), go_law11_of.j2 nxb5 l1097 = some r ∧ e' = [(1, vi p1), (5, .slice A1097 l1097.length c1097), (10, .slice A1 p0.Refs.length c1), (11, vi (p0.Refs.length : Int)), (12, vi (i5 : Int))] ∧ Le z1025 z1096 ∧ Le z0 z1096 ∧ Le z766 z1096 ∧ Cs tapiRef z1096 d1097 l1097 ∧ Ht w0 (frz z1096 :: (orow 37 4 (.slice A1097 l1097.length c1097) l1097.length d1097) :: X) w')
            · intro hj1080
              refine Run.drawH [([], fun w => ∃ ζ Y, Le z1025 ζ ∧ Ht w0 (frz ζ :: (blk g776 [vs a5.Name, vi a5.Kind, vi a5.From, vi a5.To] 37) :: (orow 37 4 (.slice A767 l767.length c767) l767.length d767) :: Y) w)] (by kernel_rfl) hst1028 (fun w1098 hst1098 => ?_)
              have hS0 := (⟨_, _, (Le.refl _), (St.up (St.up (St.up hst1098 2 rfl) 2 rfl) 2 rfl)⟩ : (fun w => ∃ ζ Y, Le z1025 ζ ∧ Ht w0 (frz ζ :: (blk g776 [vs a5.Name, vi a5.Kind, vi a5.From, vi a5.To] 37) :: (orow 37 4 (.slice A767 l767.length c767) l767.length d767) :: Y) w) _)
              refine Any.takeE 0 rfl rfl rfl rfl (by kernel_rfl) (fun _ _ _ _ _ h => h) ((Ex.move rfl).s) ?_
              refine Any.takeE 1 rfl rfl rfl rfl (by kernel_rfl) (fun _ _ _ _ _ h => h) ((Ex.move rfl).s) ?_
              obtain ⟨l1099, hy1099, hf⟩ := bnd hf
              obtain ⟨hl1099, f1099⟩ := own_pre f767 rfl (hst1098.get (i := 2) rfl) hy1099
              refine Any.takeE 2 rfl rfl rfl rfl (by kernel_rfl) (fun _ _ _ _ _ h => h) ((Ex.preA hl1099 hy1099 rfl rfl Try.underlying25 sz37 rfl rfl).s) ?_
              refine Any.take 0 4 rfl rfl rfl rfl rfl (by kernel_rfl) (fun _ _ _ _ _ h => h) (ExS.loadAgg [vs a5.Name, vi a5.Kind, vi a5.From, vi a5.To] rfl Try.underlying37 rfl sz37 rfl (fun w hS => by obtain ⟨_, _, _, hs⟩ := hS; exact hs.cells (i := 1) rfl 0 4)) hS0 ?_
              refine Any.takeE 7 rfl rfl rfl rfl (by kernel_rfl) (fun _ _ _ _ _ h => h) ((Ex.move rfl).s) ?_
              refine Any.takeE 8 rfl rfl rfl rfl (by kernel_rfl) (fun _ _ _ _ _ h => h) ((Ex.move rfl).s) ?_
              obtain ⟨l1100, hy1100, hf⟩ := bnd hf
              obtain ⟨A1100, c1100, hA1100, hB1100, f1100⟩ := own_sub f767 rfl (hst1098.get (i := 2) rfl) hy1100
              refine Any.takeE 9 rfl rfl rfl rfl (by kernel_rfl) (fun _ _ _ _ _ h => h) ((Ex.subA hA1100 hB1100 hy1100 rfl rfl Try.underlying25 sz37 rfl rfl).s) ?_
              refine Any.all [3, 5] (by kernel_rfl) rfl (fun i hi => ?_)
              simp only [List.mem_cons, List.not_mem_nil, or_false] at hi
              rcases hi with rfl | rfl
              · skip
                have hst1102 := hst1098.row0 37 4
                obtain ⟨l1101, hy1101, hf⟩ := bnd hf
                refine ⟨_, rfl, rfl, One.of_ops rfl ?_⟩
                refine Ops.app 1 hst1102 rfl (Cs.nil tapiRef z1025) rfl (f1099 _ (hst1102.get (i := 3) rfl)) rfl hy1101 rfl rfl rfl rfl Try.underlying25 inf37 rfl (by decide) (by decide) rfl (fun A1101 c1101 d1101 w1101 f1101 hst1101 => Ops.stop ?_)
                have hS0 := (⟨_, _, (Le.refl _), (St.up (St.up (St.up hst1101 3 rfl) 3 rfl) 2 rfl)⟩ : (fun w => ∃ ζ Y, Le z1025 ζ ∧ Ht w0 (frz ζ :: (blk g776 [vs a5.Name, vi a5.Kind, vi a5.From, vi a5.To] 37) :: (orow 37 4 (.slice A767 l767.length c767) l767.length d767) :: Y) w) _)
                refine ⟨⟨.inr (fun _ => hS0), trivial⟩, ?_⟩
                refine Any.one 5 (by kernel_rfl) rfl rfl (One.of_ops rfl ?_)
                refine Ops.sliceF [vs a5.Name, vi a5.Kind, vi a5.From, vi a5.To] hst1101 rfl Try.underlying25 sz37 zr37 rfl rfl (by kernel_rfl) rfl (by simp [Value.oneCell']) rfl (fun A1104 w1104 hst1104 => Ops.stop ?_)
                have f1104 : Cs tapiRef z1025 [vs a5.Name, vi a5.Kind, vi a5.From, vi a5.To] [a5] := (Cs.cons (c := [vs a5.Name, vi a5.Kind, vi a5.From, vi a5.To]) rfl (Cs.nil _ _))
                have hS0 := (⟨_, _, (Le.refl _), (St.up (St.up (St.up hst1104 4 rfl) 4 rfl) 2 rfl)⟩ : (fun w => ∃ ζ Y, Le z1025 ζ ∧ Ht w0 (frz ζ :: (blk g776 [vs a5.Name, vi a5.Kind, vi a5.From, vi a5.To] 37) :: (orow 37 4 (.slice A767 l767.length c767) l767.length d767) :: Y) w) _)
                refine ⟨⟨.inr (fun _ => hS0), trivial⟩, ?_⟩
                obtain ⟨l1105, hy1105, hf⟩ := bnd hf
                refine Any.one 6 (by kernel_rfl) rfl rfl (One.of_ops rfl ?_)
                refine Ops.app 2 hst1104 rfl f1101 rfl (own_slh f1104 rfl (hst1104.get (i := 1) rfl)) rfl hy1105 rfl rfl rfl rfl Try.underlying25 inf37 rfl (by decide) (by decide) rfl (fun A1105 c1105 d1105 w1105 f1105 hst1105 => Ops.stop ?_)
                have hS0 := (⟨_, _, (Le.refl _), (St.up (St.up (St.up hst1105 4 rfl) 4 rfl) 2 rfl)⟩ : (fun w => ∃ ζ Y, Le z1025 ζ ∧ Ht w0 (frz ζ :: (blk g776 [vs a5.Name, vi a5.Kind, vi a5.From, vi a5.To] 37) :: (orow 37 4 (.slice A767 l767.length c767) l767.length d767) :: Y) w) _)
                refine ⟨⟨.inr (fun _ => hS0), trivial⟩, ?_⟩
                obtain ⟨l1106, hy1106, hf⟩ := bnd hf
                refine Any.one 10 (by kernel_rfl) rfl rfl (One.of_ops rfl ?_)
                refine Ops.app 2 hst1105 rfl f1105 rfl (f1100 _ (hst1105.get (i := 4) rfl)) rfl hy1106 rfl rfl rfl rfl Try.underlying25 inf37 rfl (by decide) (by decide) rfl (fun A1106 c1106 d1106 w1106 f1106 hst1106 => Ops.stop ?_)
                have hS0 := (⟨_, _, (Le.refl _), (St.up (St.up (St.up hst1106 4 rfl) 4 rfl) 2 rfl)⟩ : (fun w => ∃ ζ Y, Le z1025 ζ ∧ Ht w0 (frz ζ :: (blk g776 [vs a5.Name, vi a5.Kind, vi a5.From, vi a5.To] 37) :: (orow 37 4 (.slice A767 l767.length c767) l767.length d767) :: Y) w) _)
                refine ⟨⟨.inr (fun _ => hS0), trivial⟩, ?_⟩
                refine Any.takeE 11 rfl rfl rfl rfl (by kernel_rfl) (fun _ _ _ _ _ h => h) ((Ex.assign rfl).s) ?_
                refine Any.done (by kernel_rfl) ?_
                exact Run.sub (by exact subB_spec ⟨rfl, rfl, rfl, rfl, rfl, trivial⟩) (hj1080 _ _ ⟨l1106, A1106, c1106, d1106, z1025, hf, rfl, hm1029, hy1027_0, hz1027, f1106, (St.forget (St.forget (St.forget hst1106 4) 3) 1)⟩)
              · skip
                refine ⟨_, rfl, rfl, One.of_ops rfl ?_⟩
                refine Ops.sliceF [vs a5.Name, vi a5.Kind, vi a5.From, vi a5.To] hst1098 rfl Try.underlying25 sz37 zr37 rfl rfl (by kernel_rfl) rfl (by simp [Value.oneCell']) rfl (fun A1107 w1107 hst1107 => Ops.stop ?_)
                have f1107 : Cs tapiRef z1025 [vs a5.Name, vi a5.Kind, vi a5.From, vi a5.To] [a5] := (Cs.cons (c := [vs a5.Name, vi a5.Kind, vi a5.From, vi a5.To]) rfl (Cs.nil _ _))
                have hS0 := (⟨_, _, (Le.refl _), (St.up (St.up (St.up hst1107 3 rfl) 3 rfl) 2 rfl)⟩ : (fun w => ∃ ζ Y, Le z1025 ζ ∧ Ht w0 (frz ζ :: (blk g776 [vs a5.Name, vi a5.Kind, vi a5.From, vi a5.To] 37) :: (orow 37 4 (.slice A767 l767.length c767) l767.length d767) :: Y) w) _)
                refine ⟨⟨.inr (fun _ => hS0), trivial⟩, ?_⟩
                have hst1109 := hst1107.row0 37 4
                obtain ⟨l1108, hy1108, hf⟩ := bnd hf
                refine Any.one 3 (by kernel_rfl) rfl rfl (One.of_ops rfl ?_)
                refine Ops.app 1 hst1109 rfl (Cs.nil tapiRef z1025) rfl (f1099 _ (hst1109.get (i := 4) rfl)) rfl hy1108 rfl rfl rfl rfl Try.underlying25 inf37 rfl (by decide) (by decide) rfl (fun A1108 c1108 d1108 w1108 f1108 hst1108 => Ops.stop ?_)
                have hS0 := (⟨_, _, (Le.refl _), (St.up (St.up (St.up hst1108 4 rfl) 4 rfl) 2 rfl)⟩ : (fun w => ∃ ζ Y, Le z1025 ζ ∧ Ht w0 (frz ζ :: (blk g776 [vs a5.Name, vi a5.Kind, vi a5.From, vi a5.To] 37) :: (orow 37 4 (.slice A767 l767.length c767) l767.length d767) :: Y) w) _)
                refine ⟨⟨.inr (fun _ => hS0), trivial⟩, ?_⟩
                obtain ⟨l1111, hy1111, hf⟩ := bnd hf
                refine Any.one 6 (by kernel_rfl) rfl rfl (One.of_ops rfl ?_)
                refine Ops.app 1 hst1108 rfl f1108 rfl (own_slh f1107 rfl (hst1108.get (i := 2) rfl)) rfl hy1111 rfl rfl rfl rfl Try.underlying25 inf37 rfl (by decide) (by decide) rfl (fun A1111 c1111 d1111 w1111 f1111 hst1111 => Ops.stop ?_)
                have hS0 := (⟨_, _, (Le.refl _), (St.up (St.up (St.up hst1111 4 rfl) 4 rfl) 2 rfl)⟩ : (fun w => ∃ ζ Y, Le z1025 ζ ∧ Ht w0 (frz ζ :: (blk g776 [vs a5.Name, vi a5.Kind, vi a5.From, vi a5.To] 37) :: (orow 37 4 (.slice A767 l767.length c767) l767.length d767) :: Y) w) _)
                refine ⟨⟨.inr (fun _ => hS0), trivial⟩, ?_⟩
                obtain ⟨l1112, hy1112, hf⟩ := bnd hf
                refine Any.one 10 (by kernel_rfl) rfl rfl (One.of_ops rfl ?_)
                refine Ops.app 1 hst1111 rfl f1111 rfl (f1100 _ (hst1111.get (i := 4) rfl)) rfl hy1112 rfl rfl rfl rfl Try.underlying25 inf37 rfl (by decide) (by decide) rfl (fun A1112 c1112 d1112 w1112 f1112 hst1112 => Ops.stop ?_)
                have hS0 := (⟨_, _, (Le.refl _), (St.up (St.up (St.up hst1112 4 rfl) 4 rfl) 2 rfl)⟩ : (fun w => ∃ ζ Y, Le z1025 ζ ∧ Ht w0 (frz ζ :: (blk g776 [vs a5.Name, vi a5.Kind, vi a5.From, vi a5.To] 37) :: (orow 37 4 (.slice A767 l767.length c767) l767.length d767) :: Y) w) _)
                refine ⟨⟨.inr (fun _ => hS0), trivial⟩, ?_⟩
                refine Any.takeE 11 rfl rfl rfl rfl (by kernel_rfl) (fun _ _ _ _ _ h => h) ((Ex.assign rfl).s) ?_
                refine Any.done (by kernel_rfl) ?_
                exact Run.sub (by exact subB_spec ⟨rfl, rfl, rfl, rfl, rfl, trivial⟩) (hj1080 _ _ ⟨l1112, A1112, c1112, d1112, z1025, hf, rfl, hm1029, hy1027_0, hz1027, f1112, (St.forget (St.forget (St.forget hst1112 4) 3) 2)⟩)
            · rintro e' w1113 ⟨l1097, A1097, c1097, d1097, z1096, hf, rfl, hz1113, hy1113_0, hy1113_1, f1097, hst1113⟩
              replace f1 := f1.mono hz1113
              unfold go_law11_of.j2 at hf
              refine Run.endBlk ?_
              refine Run.region ?_
              refine Ops.ex (Ex.add rfl rfl) rfl rfl rfl ?_
              refine Ops.ex (Ex.move rfl) rfl rfl rfl ?_
              refine Ops.nil ?_
              refine Run.re 12 rfl (congrArg vi (wr_succ' hl5 hc5)) ?_
              exact Run.sub (by exact subB_spec ⟨rfl, rfl, rfl, rfl, rfl, trivial⟩) (Run.stop ⟨p0.Refs.length - (i5 + 1), by omega, i5 + 1, l1097, A1097, c1097, d1097, z1096, rfl, by omega, (hnxb5 _).symm.trans hf, rfl, hy1113_0, f1097, hst1113⟩)
      · replace hf := ifF (dec_F hc) hf
        refine Any.pass 3 rfl rfl rfl rfl (by kernel_rfl) (fun _ _ _ _ _ h => h) ?_
        refine Any.pass 4 rfl rfl rfl rfl (by kernel_rfl) (fun _ _ _ _ _ h => h) ?_
        refine Any.pass 5 rfl rfl rfl rfl (by kernel_rfl) (fun _ _ _ _ _ h => h) ?_
        refine Any.pass 6 rfl rfl rfl rfl (by kernel_rfl) (fun _ _ _ _ _ h => h) ?_
        refine Any.pass 7 rfl rfl rfl rfl (by kernel_rfl) (fun _ _ _ _ _ h => h) ?_
        refine Any.pass 8 rfl rfl rfl rfl (by kernel_rfl) (fun _ _ _ _ _ h => h) ?_
        refine Any.pass 9 rfl rfl rfl rfl (by kernel_rfl) (fun _ _ _ _ _ h => h) ?_
        refine Any.pass 10 rfl rfl rfl rfl (by kernel_rfl) (fun _ _ _ _ _ h => h) ?_
        refine Any.pass 11 rfl rfl rfl rfl (by kernel_rfl) (fun _ _ _ _ _ h => h) ?_
        refine Any.pass 12 rfl rfl rfl rfl (by kernel_rfl) (fun _ _ _ _ _ h => h) ?_
        refine Any.passU 13 rfl rfl rfl rfl rfl (by kernel_rfl) (fun _ _ _ _ _ h => h) ?_
        refine Any.passU 14 rfl rfl rfl rfl rfl (by kernel_rfl) (fun _ _ _ _ _ h => h) ?_
        refine Any.passU 15 rfl rfl rfl rfl rfl (by kernel_rfl) (fun _ _ _ _ _ h => h) ?_
        refine Any.passU 16 rfl rfl rfl rfl rfl (by kernel_rfl) (fun _ _ _ _ _ h => h) ?_
        refine Any.passU 17 rfl rfl rfl rfl rfl (by kernel_rfl) (fun _ _ _ _ _ h => h) ?_
        refine Any.passU 18 rfl rfl rfl rfl rfl (by kernel_rfl) (fun _ _ _ _ _ h => h) ?_
        refine Any.passU 19 rfl rfl rfl rfl rfl (by kernel_rfl) (fun _ _ _ _ _ h => h) ?_
        refine Any.passU 20 rfl rfl rfl rfl rfl (by kernel_rfl) (fun _ _ _ _ _ h => h) ?_
        refine Any.passU 21 rfl rfl rfl rfl rfl (by kernel_rfl) (fun _ _ _ _ _ h => h) ?_
        refine Any.passU 22 rfl rfl rfl rfl rfl (by kernel_rfl) (fun _ _ _ _ _ h => h) ?_
        refine Any.passU 23 rfl rfl rfl rfl rfl (by kernel_rfl) (fun _ _ _ _ _ h => h) ?_
        refine Any.passU 24 rfl rfl rfl rfl rfl (by kernel_rfl) (fun _ _ _ _ _ h => h) ?_
        refine Any.passU 25 rfl rfl rfl rfl rfl (by kernel_rfl) (fun _ _ _ _ _ h => h) ?_
        refine Any.passU 26 rfl rfl rfl rfl rfl (by kernel_rfl) (fun _ _ _ _ _ h => h) ?_
        refine Any.passU 27 rfl rfl rfl rfl rfl (by kernel_rfl) (fun _ _ _ _ _ h => h) ?_
        refine Any.passU 28 rfl rfl rfl rfl rfl (by kernel_rfl) (fun _ _ _ _ _ h => h) ?_
        refine Any.passU 29 rfl rfl rfl rfl rfl (by kernel_rfl) (fun _ _ _ _ _ h => h) ?_
        refine Any.passU 30 rfl rfl rfl rfl rfl (by kernel_rfl) (fun _ _ _ _ _ h => h) ?_
        refine Any.passU 31 rfl rfl rfl rfl rfl (by kernel_rfl) (fun _ _ _ _ _ h => h) ?_
        refine Any.passU 32 rfl rfl rfl rfl rfl (by kernel_rfl) (fun _ _ _ _ _ h => h) ?_
        refine Any.pass 33 rfl rfl rfl rfl (by kernel_rfl) (fun _ _ _ _ _ h => h) ?_
        refine Any.takeE 34 rfl rfl rfl rfl (by kernel_rfl) (fun _ _ _ _ _ h => h) ((Ex.pickF rfl rfl).s) ?_
        refine Any.done (by kernel_rfl) ?_
        refine Run.condF rfl rfl ?_
        refine Run.exit _ rfl ?_
        apply Run.jn (fun e' w' => ∃ (l1131 : List apiRef) (A1131 : Option Addr) (c1131 : Nat) (d1131 : List Value) (z1130 : Zp), go_law11_of.j3 nxb5 l1131 = some r ∧ e' = [(1, vi p1), (5, .slice A1131 l1131.length c1131), (10, .slice A1 p0.Refs.length c1), (11, vi (p0.Refs.length : Int)), (12, vi (i5 : Int))] ∧ Le z1025 z1130 ∧ Le z0 z1130 ∧ Le z766 z1130 ∧ Cs tapiRef z1130 d1131 l1131 ∧ Ht w0 (frz z1130 :: (orow 37 4 (.slice A1131 l1131.length c1131) l1131.length d1131) :: X) w')
        · intro hj1114
          refine Run.drawH [([], fun w => ∃ ζ Y, Le z1025 ζ ∧ Ht w0 (frz ζ :: (blk g776 [vs a5.Name, vi a5.Kind, vi a5.From, vi a5.To] 37) :: (orow 37 4 (.slice A767 l767.length c767) l767.length d767) :: Y) w)] (by kernel_rfl) hst1028 (fun w1132 hst1132 => ?_)
          have hS0 := (⟨_, _, (Le.refl _), (St.up (St.up (St.up hst1132 2 rfl) 2 rfl) 2 rfl)⟩ : (fun w => ∃ ζ Y, Le z1025 ζ ∧ Ht w0 (frz ζ :: (blk g776 [vs a5.Name, vi a5.Kind, vi a5.From, vi a5.To] 37) :: (orow 37 4 (.slice A767 l767.length c767) l767.length d767) :: Y) w) _)
          refine Any.takeE 0 rfl rfl rfl rfl (by kernel_rfl) (fun _ _ _ _ _ h => h) ((Ex.move rfl).s) ?_
          refine Any.takeE 1 rfl rfl rfl rfl (by kernel_rfl) (fun _ _ _ _ _ h => h) ((Ex.move rfl).s) ?_
          obtain ⟨l1133, hy1133, hf⟩ := bnd hf
          obtain ⟨hl1133, f1133⟩ := own_pre f767 rfl (hst1132.get (i := 2) rfl) hy1133
          refine Any.takeE 2 rfl rfl rfl rfl (by kernel_rfl) (fun _ _ _ _ _ h => h) ((Ex.preA hl1133 hy1133 rfl rfl Try.underlying25 sz37 rfl rfl).s) ?_
          refine Any.take 0 4 rfl rfl rfl rfl rfl (by kernel_rfl) (fun _ _ _ _ _ h => h) (ExS.loadAgg [vs a5.Name, vi a5.Kind, vi a5.From, vi a5.To] rfl Try.underlying37 rfl sz37 rfl (fun w hS => by obtain ⟨_, _, _, hs⟩ := hS; exact hs.cells (i := 1) rfl 0 4)) hS0 ?_
          refine Any.takeE 7 rfl rfl rfl rfl (by kernel_rfl) (fun _ _ _ _ _ h => h) ((Ex.move rfl).s) ?_
          refine Any.takeE 8 rfl rfl rfl rfl (by kernel_rfl) (fun _ _ _ _ _ h => h) ((Ex.move rfl).s) ?_
          obtain ⟨l1134, hy1134, hf⟩ := bnd hf
          obtain ⟨A1134, c1134, hA1134, hB1134, f1134⟩ := own_sub f767 rfl (hst1132.get (i := 2) rfl) hy1134
          refine Any.takeE 9 rfl rfl rfl rfl (by kernel_rfl) (fun _ _ _ _ _ h => h) ((Ex.subA hA1134 hB1134 hy1134 rfl rfl Try.underlying25 sz37 rfl rfl).s) ?_
          refine Any.all [3, 5] (by kernel_rfl) rfl (fun i hi => ?_)
          simp only [List.mem_cons, List.not_mem_nil, or_false] at hi
          rcases hi with rfl | rfl
          · skip
            have hst1136 := hst1132.row0 37 4
            obtain ⟨l1135, hy1135, hf⟩ := bnd hf
            refine ⟨_, rfl, rfl, One.of_ops rfl ?_⟩
            refine Ops.app 1 hst1136 rfl (Cs.nil tapiRef z1025) rfl (f1133 _ (hst1136.get (i := 3) rfl)) rfl hy1135 rfl rfl rfl rfl Try.underlying25 inf37 rfl (by decide) (by decide) rfl (fun A1135 c1135 d1135 w1135 f1135 hst1135 => Ops.stop ?_)
            have hS0 := (⟨_, _, (Le.refl _), (St.up (St.up (St.up hst1135 3 rfl) 3 rfl) 2 rfl)⟩ : (fun w => ∃ ζ Y, Le z1025 ζ ∧ Ht w0 (frz ζ :: (blk g776 [vs a5.Name, vi a5.Kind, vi a5.From, vi a5.To] 37) :: (orow 37 4 (.slice A767 l767.length c767) l767.length d767) :: Y) w) _)
            refine ⟨⟨.inr (fun _ => hS0), trivial⟩, ?_⟩
            refine Any.one 5 (by kernel_rfl) rfl rfl (One.of_ops rfl ?_)
            refine Ops.sliceF [vs a5.Name, vi a5.Kind, vi a5.From, vi a5.To] hst1135 rfl Try.underlying25 sz37 zr37 rfl rfl (by kernel_rfl) rfl (by simp [Value.oneCell']) rfl (fun A1138 w1138 hst1138 => Ops.stop ?_)
            have f1138 : Cs tapiRef z1025 [vs a5.Name, vi a5.Kind, vi a5.From, vi a5.To] [a5] := (Cs.cons (c := [vs a5.Name, vi a5.Kind, vi a5.From, vi a5.To]) rfl (Cs.nil _ _))
            have hS0 := (⟨_, _, (Le.refl _), (St.up (St.up (St.up hst1138 4 rfl) 4 rfl) 2 rfl)⟩ : (fun w => ∃ ζ Y, Le z1025 ζ ∧ Ht w0 (frz ζ :: (blk g776 [vs a5.Name, vi a5.Kind, vi a5.From, vi a5.To] 37) :: (orow 37 4 (.slice A767 l767.length c767) l767.length d767) :: Y) w) _)
            refine ⟨⟨.inr (fun _ => hS0), trivial⟩, ?_⟩
            obtain ⟨l1139, hy1139, hf⟩ := bnd hf
            refine Any.one 6 (by kernel_rfl) rfl rfl (One.of_ops rfl ?_)
            refine Ops.app 2 hst1138 rfl f1135 rfl (own_slh f1138 rfl (hst1138.get (i := 1) rfl)) rfl hy1139 rfl rfl rfl rfl Try.underlying25 inf37 rfl (by decide) (by decide) rfl (fun A1139 c1139 d1139 w1139 f1139 hst1139 => Ops.stop ?_)
            have hS0 := (⟨_, _, (Le.refl _), (St.up (St.up (St.up hst1139 4 rfl) 4 rfl) 2 rfl)⟩ : (fun w => ∃ ζ Y, Le z1025 ζ ∧ Ht w0 (frz ζ :: (blk g776 [vs a5.Name, vi a5.Kind, vi a5.From, vi a5.To] 37) :: (orow 37 4 (.slice A767 l767.length c767) l767.length d767) :: Y) w) _)
            refine ⟨⟨.inr (fun _ => hS0), trivial⟩, ?_⟩
            obtain ⟨l1140, hy1140, hf⟩ := bnd hf
            refine Any.one 10 (by kernel_rfl) rfl rfl (One.of_ops rfl ?_)
            refine Ops.app 2 hst1139 rfl f1139 rfl (f1134 _ (hst1139.get (i := 4) rfl)) rfl hy1140 rfl rfl rfl rfl Try.underlying25 inf37 rfl (by decide) (by decide) rfl (fun A1140 c1140 d1140 w1140 f1140 hst1140 => Ops.stop ?_)
            have hS0 := (⟨_, _, (Le.refl _), (St.up (St.up (St.up hst1140 4 rfl) 4 rfl) 2 rfl)⟩ : (fun w => ∃ ζ Y, Le z1025 ζ ∧ Ht w0 (frz ζ :: (blk g776 [vs a5.Name, vi a5.Kind, vi a5.From, vi a5.To] 37) :: (orow 37 4 (.slice A767 l767.length c767) l767.length d767) :: Y) w) _)
            refine ⟨⟨.inr (fun _ => hS0), trivial⟩, ?_⟩
            refine Any.takeE 11 rfl rfl rfl rfl (by kernel_rfl) (fun _ _ _ _ _ h => h) ((Ex.assign rfl).s) ?_
            refine Any.done (by kernel_rfl) ?_
            exact Run.sub (by exact subB_spec ⟨rfl, rfl, rfl, rfl, rfl, trivial⟩) (hj1114 _ _ ⟨l1140, A1140, c1140, d1140, z1025, hf, rfl, hm1029, hy1027_0, hz1027, f1140, (St.forget (St.forget (St.forget hst1140 4) 3) 1)⟩)
          · skip
            refine ⟨_, rfl, rfl, One.of_ops rfl ?_⟩
            refine Ops.sliceF [vs a5.Name, vi a5.Kind, vi a5.From, vi a5.To] hst1132 rfl Try.underlying25 sz37 zr37 rfl rfl (by kernel_rfl) rfl (by simp [Value.oneCell']) rfl (fun A1141 w1141 hst1141 => Ops.stop ?_)
            have f1141 : Cs tapiRef z1025 [vs a5.Name, vi a5.Kind, vi a5.From, vi a5.To] [a5] := (Cs.cons (c := [vs a5.Name, vi a5.Kind, vi a5.From, vi a5.To]) rfl (Cs.nil _ _))
            have hS0 := (⟨_, _, (Le.refl _), (St.up (St.up (St.up hst1141 3 rfl) 3 rfl) 2 rfl)⟩ : (fun w => ∃ ζ Y, Le z1025 ζ ∧ Ht w0 (frz ζ :: (blk g776 [vs a5.Name, vi a5.Kind, vi a5.From, vi a5.To] 37) :: (orow 37 4 (.slice A767 l767.length c767) l767.length d767) :: Y) w) _)
            refine ⟨⟨.inr (fun _ => hS0), trivial⟩, ?_⟩
            have hst1143 := hst1141.row0 37 4
            obtain ⟨l1142, hy1142, hf⟩ := bnd hf
            refine Any.one 3 (by kernel_rfl) rfl rfl (One.of_ops rfl ?_)
            refine Ops.app 1 hst1143 rfl (Cs.nil tapiRef z1025) rfl (f1133 _ (hst1143.get (i := 4) rfl)) rfl hy1142 rfl rfl rfl rfl Try.underlying25 inf37 rfl (by decide) (by decide) rfl (fun A1142 c1142 d1142 w1142 f1142 hst1142 => Ops.stop ?_)
            have hS0 := (⟨_, _, (Le.refl _), (St.up (St.up (St.up hst1142 4 rfl) 4 rfl) 2 rfl)⟩ : (fun w => ∃ ζ Y, Le z1025 ζ ∧ Ht w0 (frz ζ :: (blk g776 [vs a5.Name, vi a5.Kind, vi a5.From, vi a5.To] 37) :: (orow 37 4 (.slice A767 l767.length c767) l767.length d767) :: Y) w) _)
            refine ⟨⟨.inr (fun _ => hS0), trivial⟩, ?_⟩
            obtain ⟨l1145, hy1145, hf⟩ := bnd hf
            refine Any.one 6 (by kernel_rfl) rfl rfl (One.of_ops rfl ?_)
            refine Ops.app 1 hst1142 rfl f1142 rfl (own_slh f1141 rfl (hst1142.get (i := 2) rfl)) rfl hy1145 rfl rfl rfl rfl Try.underlying25 inf37 rfl (by decide) (by decide) rfl (fun A1145 c1145 d1145 w1145 f1145 hst1145 => Ops.stop ?_)
            have hS0 := (⟨_, _, (Le.refl _), (St.up (St.up (St.up hst1145 4 rfl) 4 rfl) 2 rfl)⟩ : (fun w => ∃ ζ Y, Le z1025 ζ ∧ Ht w0 (frz ζ :: (blk g776 [vs a5.Name, vi a5.Kind, vi a5.From, vi a5.To] 37) :: (orow 37 4 (.slice A767 l767.length c767) l767.length d767) :: Y) w) _)
            refine ⟨⟨.inr (fun _ => hS0), trivial⟩, ?_⟩
            obtain ⟨l1146, hy1146, hf⟩ := bnd hf
            refine Any.one 10 (by kernel_rfl) rfl rfl (One.of_ops rfl ?_)
            refine Ops.app 1 hst1145 rfl f1145 rfl (f1134 _ (hst1145.get (i := 4) rfl)) rfl hy1146 rfl rfl rfl rfl Try.underlying25 inf37 rfl (by decide) (by decide) rfl (fun A1146 c1146 d1146 w1146 f1146 hst1146 => Ops.stop ?_)
            have hS0 := (⟨_, _, (Le.refl _), (St.up (St.up (St.up hst1146 4 rfl) 4 rfl) 2 rfl)⟩ : (fun w => ∃ ζ Y, Le z1025 ζ ∧ Ht w0 (frz ζ :: (blk g776 [vs a5.Name, vi a5.Kind, vi a5.From, vi a5.To] 37) :: (orow 37 4 (.slice A767 l767.length c767) l767.length d767) :: Y) w) _)
            refine ⟨⟨.inr (fun _ => hS0), trivial⟩, ?_⟩
            refine Any.takeE 11 rfl rfl rfl rfl (by kernel_rfl) (fun _ _ _ _ _ h => h) ((Ex.assign rfl).s) ?_
            refine Any.done (by kernel_rfl) ?_
            exact Run.sub (by exact subB_spec ⟨rfl, rfl, rfl, rfl, rfl, trivial⟩) (hj1114 _ _ ⟨l1146, A1146, c1146, d1146, z1025, hf, rfl, hm1029, hy1027_0, hz1027, f1146, (St.forget (St.forget (St.forget hst1146 4) 3) 2)⟩)
        · rintro e' w1147 ⟨l1131, A1131, c1131, d1131, z1130, hf, rfl, hz1147, hy1147_0, hy1147_1, f1131, hst1147⟩
          replace f1 := f1.mono hz1147
          unfold go_law11_of.j3 at hf
          refine Run.endBlk ?_
          refine Run.region ?_
          refine Ops.ex (Ex.add rfl rfl) rfl rfl rfl ?_
          refine Ops.ex (Ex.move rfl) rfl rfl rfl ?_
          refine Ops.nil ?_
          refine Run.re 12 rfl (congrArg vi (wr_succ' hl5 hc5)) ?_
          exact Run.sub (by exact subB_spec ⟨rfl, rfl, rfl, rfl, rfl, trivial⟩) (Run.stop ⟨p0.Refs.length - (i5 + 1), by omega, i5 + 1, l1131, A1131, c1131, d1131, z1130, rfl, by omega, (hnxb5 _).symm.trans hf, rfl, hy1147_0, f1131, hst1147⟩)
  · replace hf := forL_out hf (nlt_of_dec hc)
    try dsimp only at hf
    refine Run.exit _ rfl ?_
    refine Run.seq ?_
    refine Run.region ?_
    refine Ops.ex (Ex.move rfl) rfl rfl rfl ?_
    refine Ops.ex (Ex.assign rfl) rfl rfl rfl ?_
    refine Ops.nil ?_
    obtain ⟨z1148, hz1148, f1148, hst1148⟩ := St.freeze (τ := tapiRef) (xs := l767) hst770 f767 rfl
    replace f1 := f1.mono hz1148
    replace hz770 := hz770.trans hz1148
    obtain rfl := Option.some.inj hf
    exact Run.retV [.slice A767 l767.length c767] rfl ⟨rfl, trivial⟩ ⟨z1148, A767, c767, rfl, hz770, f1148, hst1148⟩
def go_law11_full.b1 (p1 : Int) (i10 : Nat) (a10 : apiRef) : (Int × Str × Int × Int × Int) → (Int × Str × Int × Int × Int → Option (apiRef × Int)) → Option (apiRef × Int) :=
  fun (x44, s45, x46, x47, x48) nxb10 => if a10.To ≤ p1 then (nxb10 (a10.To, a10.Name, a10.Kind, a10.From, a10.To)) else (nxb10 (x44, s45, x46, x47, x48))
def go_law11_full (p0 : editsSet) (p1 : Int) : Option (apiRef × Int) :=
  (go_law11_of p0 0).bind fun y8 => forL (go_law11_full.b1 p1) (fun (x44, s45, x46, x47, x48) => some ((⟨s45, x46, x47, x48⟩ : apiRef), x44)) 0 y8 ((-1), [], 0, 0, 0)
set_option maxRecDepth 100000 in
set_option maxHeartbeats 4000000 in
theorem go_law11_full.walk {w0 w : World} {X : List Res} {z0 : Zp} {p0 : editsSet} {A1 : Option Addr} {c1 : Nat} {p1 : Int} {r : apiRef × Int} (hst : Ht w0 (frz z0 :: X) w) (f1 : Sl tapiRef z0 A1 c1 p0.Refs) (hf : go_law11_full p0 p1 = some r) :
    Calls Try.prog 13 #[.agg #[.slice A1 p0.Refs.length c1, vi p0.Floor], vi p1] w fun e w' => ∃ (z' : Zp), e = .returned (.tuple #[.agg #[vs r.1.Name, vi r.1.Kind, vi r.1.From, vi r.1.To], vi r.2]) ∧ Le z0 z' ∧ Ht w0 (frz z' :: X) w' := by
  refine calls_np Try.func13 rfl rfl ?_
  have hle0 := Le.refl z0
  unfold go_law11_full at hf
  refine Run.seq ?_
  refine Run.region ?_
  refine Ops.boxF [.slice A1 p0.Refs.length c1, vi p0.Floor] hst rfl rfl rfl (fun g4 w4 hst4 => ?_)
  refine Ops.allocF [vs [], vi 0, vi 0, vi 0] hst4 zr37 rfl rfl (fun g5 w5 hst5 => ?_)
  refine Ops.ex (Ex.assign rfl) rfl rfl rfl ?_
  refine Ops.nil ?_
  refine Run.seq ?_
  refine Run.region ?_
  refine Ops.ex (Ex.build [vs [], vi 0, vi 0, vi 0] rfl Try.underlying37 zr37 (pl37 Try.underlying37) (by kernel_rfl)) rfl rfl rfl ?_
  refine Ops.allocF [vs [], vi 0, vi 0, vi 0] hst5 zr37 rfl rfl (fun g6 w6 hst6 => ?_)
  refine Ops.store 1 [vs [], vi 0, vi 0, vi 0] hst6 rfl rfl rfl rfl sz37 rfl (by simp [Value.oneCell']) (by simp) (fun w7 hst7 => ?_)
  refine Ops.ex (Ex.assign rfl) rfl rfl rfl ?_
  refine Ops.nil ?_
  refine Run.seq ?_
  refine Run.seq ?_
  refine Run.region ?_
  refine Ops.loadAgg _ rfl Try.underlying27 rfl sz27 rfl (hst7.cells (i := 3) rfl 0 2) rfl ?_
  obtain ⟨y8, hy8, hf⟩ := bnd hf
  refine Ops.call rfl rfl Try.func14 (by kernel_rfl) (by kernel_rfl) rfl (go_law11_of.walk (p0 := p0) (p1 := 0) (hst := hst7) (f1 := f1) (hf := hy8)) ?_
  rintro _ w8 ⟨z8, A9, c9, rfl, hz8, f9, hst8⟩
  refine ⟨_, rfl, ?_⟩
  replace f1 := f1.mono hz8
  replace hle0 := hle0.trans hz8
  refine Ops.ex (Ex.len' rfl rfl rfl Try.underlying25) rfl rfl rfl ?_
  refine Ops.ex (Ex.move rfl) rfl rfl rfl ?_
  refine Ops.nil ?_
  refine Run.block ?_
  have hc10 := f9.cap
  have hm11 := Le.refl z8
  refine Run.sub (e' := [(1, vi p1), (4, .pointer (some ⟨g5, 0, none⟩)), (6, .pointer (some ⟨g6, 0, none⟩)), (7, vi (-1)), (12, .slice A9 y8.length c9), (13, vi (y8.length : Int)), (14, vi ((0 : Nat) : Int))]) (subB_spec ⟨rfl, rfl, rfl, rfl, rfl, rfl, rfl, trivial⟩) ?_
  refine Run.loop (fun mb10 => (fun e' w' => ∃ (i10 : Nat) (x44 : Int) (s45 : Str) (x46 : Int) (x47 : Int) (x48 : Int) (z43 : Zp), mb10 = y8.length - i10 ∧ i10 ≤ y8.length ∧ forL (go_law11_full.b1 p1) (fun (x44, s45, x46, x47, x48) => some ((⟨s45, x46, x47, x48⟩ : apiRef), x44)) i10 (y8.drop i10) (x44, s45, x46, x47, x48) = some r ∧ e' = [(1, vi p1), (4, .pointer (some ⟨g5, 0, none⟩)), (6, .pointer (some ⟨g6, 0, none⟩)), (7, vi x44), (12, .slice A9 y8.length c9), (13, vi (y8.length : Int)), (14, vi (i10 : Int))] ∧ Le z8 z43 ∧ Le z0 z43 ∧ Ht w0 (frz z43 :: (blk g6 [vs s45, vi x46, vi x47, vi x48] 37) :: (blk g5 [vs [], vi 0, vi 0, vi 0] 37) :: X) w')) y8.length ⟨0, (-1), [], 0, 0, 0, z8, rfl, Nat.zero_le _, hf, rfl, hm11, hle0, (St.forget hst8 3)⟩ ?_
  rintro _ e' w49 ⟨i10, x44, s45, x46, x47, x48, z43, rfl, hi10, hf, rfl, hz49, hy49_0, hst49⟩
  replace f9 := f9.mono hz49
  refine Run.seq ?_
  refine Run.region ?_
  refine Ops.ex (Ex.lss rfl rfl) rfl rfl rfl ?_
  refine Ops.nil ?_
  refine Run.seq ?_
  refine Run.cond rfl (fun hc => ?_) (fun hc => ?_)
  · have hl10 := lt_of_dec hc
    obtain ⟨a10, nxb10, ha10, hnxb10, hf⟩ := forL_in hf hl10
    unfold go_law11_full.b1 at hf
    try dsimp only at hf
    refine Run.skip ?_
    refine Run.seq ?_
    refine Run.block ?_
    refine Run.seq ?_
    refine Run.region ?_
    obtain ⟨g54, p54, o54, cs54, hA54, ho54, hr54, f54⟩ := SlH.elem f9.toH (atI_nat ha10)
    obtain rfl := hr54
    refine Ops.ex (Ex.ixA hA54 ho54 (atI_nat ha10) rfl rfl rfl Try.underlying25 sz37) rfl rfl rfl ?_
    refine Ops.loadAgg [vs a10.Name, vi a10.Kind, vi a10.From, vi a10.To] rfl Try.underlying37 rfl sz37 rfl (cells_of_zc rfl (f54.mono hst49.le)) rfl ?_
    refine Ops.allocF [vs [], vi 0, vi 0, vi 0] hst49 zr37 rfl rfl (fun g55 w55 hst55 => ?_)
    refine Ops.store 1 [vs a10.Name, vi a10.Kind, vi a10.From, vi a10.To] hst55 rfl rfl rfl rfl sz37 rfl (by simp [Value.oneCell']) (by simp) (fun w56 hst56 => ?_)
    refine Ops.nil ?_
    refine Run.seq ?_
    refine Run.region ?_
    refine Ops.ex (Ex.fieldAddr rfl Try.underlying37 rfl sz3) rfl rfl rfl ?_
    refine Ops.load rfl Try.underlying3 rfl (hst56.cell (i := 1) rfl rfl) rfl ?_
    refine Ops.ex (Ex.move rfl) rfl rfl rfl ?_
    refine Ops.ex (Ex.leq rfl rfl) rfl rfl rfl ?_
    refine Ops.nil ?_
    refine Run.cond rfl (fun hc => ?_) (fun hc => ?_)
    · replace hf := ifT (dec_T hc) hf
      have hm58 := Le.refl z43
      refine Run.drawH [([], fun w => ∃ ζ Y, Le z43 ζ ∧ Ht w0 (frz ζ :: (blk g55 [vs a10.Name, vi a10.Kind, vi a10.From, vi a10.To] 37) :: (blk g5 [vs [], vi 0, vi 0, vi 0] 37) :: Y) w), ([3], fun w => ∃ ζ Y, Le z43 ζ ∧ Ht w0 (frz ζ :: (blk g6 [vs s45, vi x46, vi x47, vi x48] 37) :: Y) w)] (by kernel_rfl) hst56 (fun w57 hst57 => ?_)
      have hS0 := (⟨_, _, (Le.refl _), (St.up (St.up (St.up hst57 3 rfl) 2 rfl) 2 rfl)⟩ : (fun w => ∃ ζ Y, Le z43 ζ ∧ Ht w0 (frz ζ :: (blk g55 [vs a10.Name, vi a10.Kind, vi a10.From, vi a10.To] 37) :: (blk g5 [vs [], vi 0, vi 0, vi 0] 37) :: Y) w) _)
      have hS1 := (⟨_, _, (Le.refl _), (St.up (St.up hst57 2 rfl) 1 rfl)⟩ : (fun w => ∃ ζ Y, Le z43 ζ ∧ Ht w0 (frz ζ :: (blk g6 [vs s45, vi x46, vi x47, vi x48] 37) :: Y) w) _)
      refine Any.take 0 0 rfl rfl rfl rfl rfl (by kernel_rfl) (fun _ _ _ _ _ h => h) (ExS.loadAgg [vs a10.Name, vi a10.Kind, vi a10.From, vi a10.To] rfl Try.underlying37 rfl sz37 rfl (fun w hS => by obtain ⟨_, _, _, hs⟩ := hS; exact hs.cells (i := 1) rfl 0 4)) hS0 ?_
      refine Any.takeE 1 rfl rfl rfl rfl (by kernel_rfl) (fun _ _ _ _ _ h => h) ((Ex.fieldAddr rfl Try.underlying37 rfl sz3).s) ?_
      refine Any.take 0 2 rfl rfl rfl rfl rfl (by kernel_rfl) (fun _ _ _ _ _ h => h) (ExS.load rfl Try.underlying3 rfl (fun w hS => by obtain ⟨_, _, _, hs⟩ := hS; exact hs.cell (i := 1) rfl rfl)) hS0 ?_
      refine Any.one 3 (by kernel_rfl) rfl rfl (One.of_ops rfl ?_)
      refine Ops.store 2 [vs a10.Name, vi a10.Kind, vi a10.From, vi a10.To] hst57 rfl rfl rfl rfl sz37 rfl (by simp [Value.oneCell']) (by simp) (fun w59 hst59 => Ops.stop ?_)
      have hS0 := (⟨_, _, (Le.refl _), (St.up (St.up (St.up hst59 3 rfl) 2 rfl) 2 rfl)⟩ : (fun w => ∃ ζ Y, Le z43 ζ ∧ Ht w0 (frz ζ :: (blk g55 [vs a10.Name, vi a10.Kind, vi a10.From, vi a10.To] 37) :: (blk g5 [vs [], vi 0, vi 0, vi 0] 37) :: Y) w) _)
      refine ⟨⟨.inr (fun _ => hS0), .inl (by decide), trivial⟩, ?_⟩
      refine Any.takeE 4 rfl rfl rfl rfl (by kernel_rfl) (fun _ _ _ _ _ h => h) ((Ex.assign rfl).s) ?_
      refine Any.done (by kernel_rfl) ?_
      refine Run.endBlk ?_
      refine Run.region ?_
      refine Ops.ex (Ex.add rfl rfl) rfl rfl rfl ?_
      refine Ops.ex (Ex.move rfl) rfl rfl rfl ?_
      refine Ops.nil ?_
      refine Run.re 14 rfl (congrArg vi (wr_succ' hl10 hc10)) ?_
      exact Run.sub (by exact subB_spec ⟨rfl, rfl, rfl, rfl, rfl, rfl, rfl, trivial⟩) (Run.stop ⟨y8.length - (i10 + 1), by omega, i10 + 1, a10.To, a10.Name, a10.Kind, a10.From, a10.To, z43, rfl, by omega, (hnxb10 _).symm.trans hf, rfl, hz49, hy49_0, (St.forget hst59 1)⟩)
    · replace hf := ifF (dec_F hc) hf
      refine Run.skip ?_
      refine Run.endBlk ?_
      refine Run.region ?_
      refine Ops.ex (Ex.add rfl rfl) rfl rfl rfl ?_
      refine Ops.ex (Ex.move rfl) rfl rfl rfl ?_
      refine Ops.nil ?_
      refine Run.re 14 rfl (congrArg vi (wr_succ' hl10 hc10)) ?_
      exact Run.sub (by exact subB_spec ⟨rfl, rfl, rfl, rfl, rfl, rfl, rfl, trivial⟩) (Run.stop ⟨y8.length - (i10 + 1), by omega, i10 + 1, x44, s45, x46, x47, x48, z43, rfl, by omega, (hnxb10 _).symm.trans hf, rfl, hz49, hy49_0, (St.forget hst56 1)⟩)
  · replace hf := forL_out hf (nlt_of_dec hc)
    try dsimp only at hf
    refine Run.exit _ rfl ?_
    refine Run.seq ?_
    refine Run.region ?_
    refine Ops.loadAgg _ rfl Try.underlying37 rfl sz37 rfl (hst49.cells (i := 1) rfl 0 4) rfl ?_
    refine Ops.ex (Ex.move rfl) rfl rfl rfl ?_
    refine Ops.store 2 [vs s45, vi x46, vi x47, vi x48] hst49 rfl rfl rfl rfl sz37 rfl (by simp [Value.oneCell']) (by simp) (fun w60 hst60 => ?_)
    refine Ops.ex (Ex.assign rfl) rfl rfl rfl ?_
    refine Ops.nil ?_
    obtain rfl := Option.some.inj hf
    exact Run.retV [.agg #[vs s45, vi x46, vi x47, vi x48], vi x44] rfl ⟨⟨_, rfl, run_loadN _ Try.underlying37 rfl sz37 rfl (hst60.cells (i := 2) rfl 0 4)⟩, rfl, trivial⟩ ⟨z43, rfl, hy49_0, (St.forget (St.forget hst60 2) 1)⟩
def go_law11_refs.b1 (p1 : List apiRef) (i3 : Nat) (a3 : apiRef) : Unit → (Unit → Option Bool) → Option Bool :=
  fun _ nxb3 => (atI p1 (i3 : Int)).bind fun y43 => if a3 = y43 then (nxb3 ()) else (some false)
def go_law11_refs (p0 : List apiRef) (p1 : List apiRef) : Option Bool :=
  if (p0.length : Int) = (p1.length : Int) then (forL (go_law11_refs.b1 p1) (fun _ => some true) 0 p0 ()) else (some false)
set_option maxRecDepth 100000 in
set_option maxHeartbeats 4000000 in
theorem go_law11_refs.walk {w0 w : World} {X : List Res} {z0 : Zp} {p0 : List apiRef} {A1 : Option Addr} {c1 : Nat} {p1 : List apiRef} {A2 : Option Addr} {c2 : Nat} {r : Bool} (hst : Ht w0 (frz z0 :: X) w) (f1 : Sl tapiRef z0 A1 c1 p0) (f2 : Sl tapiRef z0 A2 c2 p1) (hf : go_law11_refs p0 p1 = some r) :
    Calls Try.prog 15 #[.slice A1 p0.length c1, .slice A2 p1.length c2] w fun e w' => ∃ (z' : Zp), e = .returned (vb r) ∧ Le z0 z' ∧ Ht w0 (frz z' :: X) w' := by
  refine calls_np Try.func15 rfl rfl ?_
  have hle0 := Le.refl z0
  unfold go_law11_refs at hf
  refine Run.seq ?_
  refine Run.region ?_
  refine Ops.ex (Ex.assign rfl) rfl rfl rfl ?_
  refine Ops.nil ?_
  refine Run.seq ?_
  refine Run.seq ?_
  refine Run.region ?_
  refine Ops.ex (Ex.move rfl) rfl rfl rfl ?_
  refine Ops.ex (Ex.len' rfl rfl rfl Try.underlying25) rfl rfl rfl ?_
  refine Ops.ex (Ex.move rfl) rfl rfl rfl ?_
  refine Ops.ex (Ex.len' rfl rfl rfl Try.underlying25) rfl rfl rfl ?_
  refine Ops.ex (Ex.neqI rfl rfl) rfl rfl rfl ?_
  refine Ops.nil ?_
  refine Run.cond rfl (fun hc => ?_) (fun hc => ?_)
  · replace hf := ifF (neq_T hc) hf
    refine Run.seq ?_
    refine Run.region ?_
    refine Ops.ex (Ex.assign rfl) rfl rfl rfl ?_
    refine Ops.nil ?_
    obtain rfl := Option.some.inj hf
    exact Run.retV [vb false] rfl ⟨rfl, trivial⟩ ⟨z0, rfl, hle0, hst⟩
  · replace hf := ifT (neq_F hc) hf
    refine Run.skip ?_
    refine Run.seq ?_
    refine Run.seq ?_
    refine Run.region ?_
    refine Ops.ex (Ex.move rfl) rfl rfl rfl ?_
    refine Ops.ex (Ex.len' rfl rfl rfl Try.underlying25) rfl rfl rfl ?_
    refine Ops.ex (Ex.move rfl) rfl rfl rfl ?_
    refine Ops.nil ?_
    refine Run.block ?_
    have hc3 := f1.cap
    refine Run.sub (e' := [(0, .slice A1 p0.length c1), (1, .slice A2 p1.length c2), (12, vi (p0.length : Int)), (13, vi ((0 : Nat) : Int))]) (subB_spec ⟨rfl, rfl, rfl, rfl, trivial⟩) ?_
    refine Run.loop (fun mb3 => (fun e' w' => ∃ (i3 : Nat) (z34 : Zp), mb3 = p0.length - i3 ∧ i3 ≤ p0.length ∧ forL (go_law11_refs.b1 p1) (fun _ => some true) i3 (p0.drop i3) () = some r ∧ e' = [(0, .slice A1 p0.length c1), (1, .slice A2 p1.length c2), (12, vi (p0.length : Int)), (13, vi (i3 : Int))] ∧ Le z0 z34 ∧ Ht w0 (frz z34 :: X) w')) p0.length ⟨0, z0, rfl, Nat.zero_le _, hf, rfl, hle0, hst⟩ ?_
    rintro _ e' w35 ⟨i3, z34, rfl, hi3, hf, rfl, hz35, hst35⟩
    replace f1 := f1.mono hz35; replace f2 := f2.mono hz35
    refine Run.seq ?_
    refine Run.region ?_
    refine Ops.ex (Ex.lss rfl rfl) rfl rfl rfl ?_
    refine Ops.nil ?_
    refine Run.seq ?_
    refine Run.cond rfl (fun hc => ?_) (fun hc => ?_)
    · have hl3 := lt_of_dec hc
      obtain ⟨a3, nxb3, ha3, hnxb3, hf⟩ := forL_in hf hl3
      unfold go_law11_refs.b1 at hf
      try dsimp only at hf
      refine Run.skip ?_
      refine Run.seq ?_
      refine Run.block ?_
      refine Run.seq ?_
      refine Run.region ?_
      refine Ops.ex (Ex.move rfl) rfl rfl rfl ?_
      refine Ops.ex (Ex.assign rfl) rfl rfl rfl ?_
      refine Ops.nil ?_
      refine Run.seq ?_
      have hm37 := Le.refl z34
      refine Run.drawH [([], fun w => ∃ ζ Y, Le z34 ζ ∧ Ht w0 (frz ζ :: Y) w)] (by kernel_rfl) hst35 (fun w36 hst36 => ?_)
      have hS0 := (⟨_, _, (Le.refl _), hst36⟩ : (fun w => ∃ ζ Y, Le z34 ζ ∧ Ht w0 (frz ζ :: Y) w) _)
      refine Any.takeE 0 rfl rfl rfl rfl (by kernel_rfl) (fun _ _ _ _ _ h => h) ((Ex.move rfl).s) ?_
      refine Any.takeE 1 rfl rfl rfl rfl (by kernel_rfl) (fun _ _ _ _ _ h => h) ((Ex.move rfl).s) ?_
      obtain ⟨g42, p42, o42, cs42, hA42, ho42, hr42, f42⟩ := SlH.elem f1.toH (atI_nat ha3)
      obtain rfl := hr42
      refine Any.takeE 2 rfl rfl rfl rfl (by kernel_rfl) (fun _ _ _ _ _ h => h) ((Ex.ixA hA42 ho42 (atI_nat ha3) rfl rfl rfl Try.underlying25 sz37).s) ?_
      refine Any.take 0 3 rfl rfl rfl rfl rfl (by kernel_rfl) (fun _ _ _ _ _ h => h) (ExS.loadAgg [vs a3.Name, vi a3.Kind, vi a3.From, vi a3.To] rfl Try.underlying37 rfl sz37 rfl (fun w hS => by obtain ⟨_, _, hz, hs⟩ := hS; exact cells_of_zc rfl (f42.mono (hz.trans hs.le)))) hS0 ?_
      refine Any.takeE 4 rfl rfl rfl rfl (by kernel_rfl) (fun _ _ _ _ _ h => h) ((Ex.move rfl).s) ?_
      refine Any.takeE 5 rfl rfl rfl rfl (by kernel_rfl) (fun _ _ _ _ _ h => h) ((Ex.move rfl).s) ?_
      obtain ⟨y43, hy43, hf⟩ := bnd hf
      obtain ⟨g48, p48, o48, cs48, hA48, ho48, hr48, f48⟩ := SlH.elem f2.toH hy43
      obtain rfl := hr48
      refine Any.takeE 6 rfl rfl rfl rfl (by kernel_rfl) (fun _ _ _ _ _ h => h) ((Ex.ixA hA48 ho48 hy43 rfl rfl rfl Try.underlying25 sz37).s) ?_
      refine Any.take 0 7 rfl rfl rfl rfl rfl (by kernel_rfl) (fun _ _ _ _ _ h => h) (ExS.loadAgg [vs y43.Name, vi y43.Kind, vi y43.From, vi y43.To] rfl Try.underlying37 rfl sz37 rfl (fun w hS => by obtain ⟨_, _, hz, hs⟩ := hS; exact cells_of_zc rfl (f48.mono (hz.trans hs.le)))) hS0 ?_
      refine Any.takeE 8 rfl rfl rfl rfl (by kernel_rfl) (fun _ _ _ _ _ h => h) ((Ex.neqV rfl rfl (eqv37 9998 a3 y43) (by kernel_rfl)).s) ?_
      refine Any.done (by kernel_rfl) ?_
      refine Run.cond rfl (fun hc => ?_) (fun hc => ?_)
      · replace hf := ifF (neq_T hc) hf
        refine Run.seq ?_
        refine Run.region ?_
        refine Ops.ex (Ex.assign rfl) rfl rfl rfl ?_
        refine Ops.nil ?_
        obtain rfl := Option.some.inj hf
        exact Run.retV [vb false] rfl ⟨rfl, trivial⟩ ⟨z34, rfl, hz35, hst36⟩
      · replace hf := ifT (neq_F hc) hf
        refine Run.skip ?_
        refine Run.endBlk ?_
        refine Run.region ?_
        refine Ops.ex (Ex.add rfl rfl) rfl rfl rfl ?_
        refine Ops.ex (Ex.move rfl) rfl rfl rfl ?_
        refine Ops.nil ?_
        refine Run.re 13 rfl (congrArg vi (wr_succ' hl3 hc3)) ?_
        exact Run.sub (by exact subB_spec ⟨rfl, rfl, rfl, rfl, trivial⟩) (Run.stop ⟨p0.length - (i3 + 1), by omega, i3 + 1, z34, rfl, by omega, (hnxb3 _).symm.trans hf, rfl, hz35, hst36⟩)
    · replace hf := forL_out hf (nlt_of_dec hc)
      try dsimp only at hf
      refine Run.exit _ rfl ?_
      refine Run.seq ?_
      refine Run.region ?_
      refine Ops.ex (Ex.assign rfl) rfl rfl rfl ?_
      refine Ops.nil ?_
      obtain rfl := Option.some.inj hf
      exact Run.retV [vb true] rfl ⟨rfl, trivial⟩ ⟨z34, rfl, hz35, hst35⟩
end Go.Proofs.Ytbinmebiknjncaa.P2
