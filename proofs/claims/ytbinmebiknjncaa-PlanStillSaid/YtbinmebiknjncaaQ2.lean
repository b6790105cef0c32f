/- Plan: edits.Do, PlanStill. -/
import Derived.Test.YtbinmebiknjncaaQ1
import Derived.Test.YtbinmebiknjncaaS1
namespace Go.Proofs.Ytbinmebiknjncaa.Q2
open Go Go.RowKit Go.Proofs.Ytbinmebiknjncaa.Sx Go.Proofs.Ytbinmebiknjncaa.P1 Go.Proofs.Ytbinmebiknjncaa.P2 Go.Proofs.Ytbinmebiknjncaa.P3 Go.Proofs.Ytbinmebiknjncaa.Q1
set_option linter.unusedVariables false
set_option linter.unusedSimpArgs false
structure editsEdit where
  Add : List apiRef
  Drop : List Str
  Floor : Int
  deriving DecidableEq
def teditsEdit : Ty editsEdit where
  sz := 3
  R := fun ζ cs x => ∃ A0 c0 A1 c1, cs = [.slice A0 x.Add.length c0, .slice A1 x.Drop.length c1, vi x.Floor] ∧ Sl tapiRef ζ A0 c0 x.Add ∧ Sl tS ζ A1 c1 x.Drop
  len := by rintro ζ cs x ⟨A0, c0, A1, c1, rfl, f0, f1⟩; rfl
  one := by
    rintro ζ cs x ⟨A0, c0, A1, c1, rfl, f0, f1⟩ u hu
    simp only [List.mem_cons, List.not_mem_nil, or_false] at hu
    rcases hu with rfl | rfl | rfl <;> rfl
  mono := by rintro ζ ζ' cs x ⟨A0, c0, A1, c1, rfl, f0, f1⟩ hl; exact ⟨A0, c0, A1, c1, rfl, f0.mono hl, f1.mono hl⟩
theorem sz48 : (Try.prog.info? 48).map (·.size) = some 1 := by kernel_rfl
theorem zr54 : (Try.prog.info? 54).map (·.zero) = some (some (.agg #[.slice none 0 0, .slice none 0 0, .int .i64 0])) := by kernel_rfl
theorem pl54 {fs : Array Field} (h : Try.prog.underlying 54 = some (.struct fs)) (w : World) : (fs.mapM fun f => do pure (f.offset, ← sizeOf f.type) : Sem (Array (Nat × Nat))).run Try.prog w = .ok #[(0, 1), (1, 1), (2, 1)] w := by
  rw [Try.underlying54] at h
  cases h
  kernel_rfl
def go_edits_Find_c1 (p0 : apiRef) (q0 : Str) : Option Bool :=
  some (decide (p0.Name = q0))
set_option maxRecDepth 100000 in
set_option maxHeartbeats 4000000 in
theorem go_edits_Find_c1.walk {w0 w : World} {X : List Res} {z0 : Zp} {p0 : apiRef} {q0 : Str} {gq0 : Nat} {r : Bool} (hst : Ht w0 (frz z0 :: (blk gq0 [vs q0] 9) :: X) w) (hf : go_edits_Find_c1 p0 q0 = some r) :
    Calls Try.prog 30 #[.agg #[vs p0.Name, vi p0.Kind, vi p0.From, vi p0.To], .pointer (some ⟨gq0, 0, none⟩)] w fun e w' => ∃ (z' : Zp), e = .returned (vb r) ∧ Le z0 z' ∧ Ht w0 (frz z' :: (blk gq0 [vs q0] 9) :: X) w' := by
  refine calls_np Try.func30 rfl rfl ?_
  have hle0 := Le.refl z0
  unfold go_edits_Find_c1 at hf
  refine Run.seq ?_
  refine Run.region ?_
  refine Ops.boxF [vs p0.Name, vi p0.Kind, vi p0.From, vi p0.To] hst rfl rfl rfl (fun g6 w6 hst6 => ?_)
  refine Ops.ex (Ex.assign rfl) rfl rfl rfl ?_
  refine Ops.nil ?_
  refine Run.seq ?_
  refine Run.region ?_
  refine Ops.ex (Ex.fieldAddr rfl Try.underlying37 rfl sz9) rfl rfl rfl ?_
  refine Ops.load rfl Try.underlying9 rfl (hst6.cell (i := 1) rfl rfl) rfl ?_
  refine Ops.load rfl Try.underlying9 rfl (hst6.cell (i := 2) rfl rfl) rfl ?_
  refine Ops.ex (Ex.eqlT rfl rfl) rfl rfl rfl ?_
  refine Ops.ex (Ex.assign rfl) rfl rfl rfl ?_
  refine Ops.nil ?_
  obtain rfl := Option.some.inj hf
  exact Run.retV [vb (decide (p0.Name = q0))] rfl ⟨rfl, trivial⟩ ⟨z0, rfl, hle0, (St.forget hst6 1)⟩
def go_slices_IndexFunc_api_Ref_api_Ref_edits_Find_c1.b1 (p1_0 : Str) (i3 : Nat) (a3 : apiRef) : Unit → (Unit → Option Int) → Option Int :=
  fun _ nxb3 => (go_edits_Find_c1 a3 p1_0).bind fun y29 => if y29 then (some (i3 : Int)) else (nxb3 ())
def go_slices_IndexFunc_api_Ref_api_Ref_edits_Find_c1 (p0 : List apiRef) (p1_0 : Str) : Option Int :=
  forL (go_slices_IndexFunc_api_Ref_api_Ref_edits_Find_c1.b1 p1_0) (fun _ => some (-1)) 0 p0 ()
set_option maxRecDepth 100000 in
set_option maxHeartbeats 4000000 in
theorem go_slices_IndexFunc_api_Ref_api_Ref_edits_Find_c1.walk {w0 w : World} {X : List Res} {z0 : Zp} {p0 : List apiRef} {A1 : Option Addr} {c1 : Nat} {p1_0 : Str} {g1_0 : Nat} {r : Int} (hst : Ht w0 (frz z0 :: (blk g1_0 [vs p1_0] 9) :: X) w) (f1 : Sl tapiRef z0 A1 c1 p0) (hf : go_slices_IndexFunc_api_Ref_api_Ref_edits_Find_c1 p0 p1_0 = some r) :
    Calls Try.prog 29 #[.slice A1 p0.length c1, .func (.func 30) #[] #[.pointer (some ⟨g1_0, 0, none⟩)]] w fun e w' => ∃ (z' : Zp), e = .returned (vi r) ∧ Le z0 z' ∧ Ht w0 (frz z' :: (blk g1_0 [vs p1_0] 9) :: X) w' := by
  refine calls_np Try.func29 rfl rfl ?_
  have hle0 := Le.refl z0
  unfold go_slices_IndexFunc_api_Ref_api_Ref_edits_Find_c1 at hf
  refine Run.seq ?_
  refine Run.region ?_
  refine Ops.ex (Ex.assign rfl) rfl rfl rfl ?_
  refine Ops.nil ?_
  refine Run.seq ?_
  refine Run.seq ?_
  refine Run.region ?_
  refine Ops.ex (Ex.move rfl) rfl rfl rfl ?_
  refine Ops.ex (Ex.len' rfl rfl rfl Try.underlying25) rfl rfl rfl ?_
  refine Ops.ex (Ex.move rfl) rfl rfl rfl ?_
  refine Ops.nil ?_
  refine Run.block ?_
  have hc3 := f1.cap
  refine Run.sub (e' := [(0, .slice A1 p0.length c1), (1, .func (.func 30) #[] #[.pointer (some ⟨g1_0, 0, none⟩)]), (7, vi (p0.length : Int)), (8, vi ((0 : Nat) : Int))]) (subB_spec ⟨rfl, rfl, rfl, rfl, trivial⟩) ?_
  refine Run.loop (fun mb3 => (fun e' w' => ∃ (i3 : Nat) (z22 : Zp), mb3 = p0.length - i3 ∧ i3 ≤ p0.length ∧ forL (go_slices_IndexFunc_api_Ref_api_Ref_edits_Find_c1.b1 p1_0) (fun _ => some (-1)) i3 (p0.drop i3) () = some r ∧ e' = [(0, .slice A1 p0.length c1), (1, .func (.func 30) #[] #[.pointer (some ⟨g1_0, 0, none⟩)]), (7, vi (p0.length : Int)), (8, vi (i3 : Int))] ∧ Le z0 z22 ∧ Ht w0 (frz z22 :: (blk g1_0 [vs p1_0] 9) :: X) w')) p0.length ⟨0, z0, rfl, Nat.zero_le _, hf, rfl, hle0, hst⟩ ?_
  rintro _ e' w23 ⟨i3, z22, rfl, hi3, hf, rfl, hz23, hst23⟩
  replace f1 := f1.mono hz23
  refine Run.seq ?_
  refine Run.region ?_
  refine Ops.ex (Ex.lss rfl rfl) rfl rfl rfl ?_
  refine Ops.nil ?_
  refine Run.seq ?_
  refine Run.cond rfl (fun hc => ?_) (fun hc => ?_)
  · have hl3 := lt_of_dec hc
    obtain ⟨a3, nxb3, ha3, hnxb3, hf⟩ := forL_in hf hl3
    unfold go_slices_IndexFunc_api_Ref_api_Ref_edits_Find_c1.b1 at hf
    try dsimp only at hf
    refine Run.skip ?_
    refine Run.seq ?_
    refine Run.block ?_
    refine Run.seq ?_
    refine Run.region ?_
    refine Ops.ex (Ex.move rfl) rfl rfl rfl ?_
    refine Ops.ex (Ex.assign rfl) rfl rfl rfl ?_
    refine Ops.nil ?_
    refine Run.seq ?_
    refine Run.region ?_
    refine Ops.ex (Ex.move rfl) rfl rfl rfl ?_
    refine Ops.ex (Ex.move rfl) rfl rfl rfl ?_
    refine Ops.ex (Ex.move rfl) rfl rfl rfl ?_
    obtain ⟨g28, p28, o28, cs28, hA28, ho28, hr28, f28⟩ := SlH.elem f1.toH (atI_nat ha3)
    obtain rfl := hr28
    refine Ops.ex (Ex.ixA hA28 ho28 (atI_nat ha3) rfl rfl rfl Try.underlying25 sz37) rfl rfl rfl ?_
    refine Ops.loadAgg [vs a3.Name, vi a3.Kind, vi a3.From, vi a3.To] rfl Try.underlying37 rfl sz37 rfl (cells_of_zc rfl (f28.mono hst23.le)) rfl ?_
    obtain ⟨y29, hy29, hf⟩ := bnd hf
    refine Ops.call rfl rfl Try.func30 (by kernel_rfl) (by kernel_rfl) rfl (go_edits_Find_c1.walk (p0 := a3) (q0 := p1_0) (hst := hst23) (hf := hy29)) ?_
    rintro _ w29 ⟨z29, rfl, hz29, hst29⟩
    refine ⟨_, rfl, ?_⟩
    replace f1 := f1.mono hz29; replace f28 := f28.mono hz29
    replace hz23 := hz23.trans hz29
    refine Ops.nil ?_
    refine Run.cond rfl (fun hc => ?_) (fun hc => ?_)
    · replace hf := ifTb hc hf
      refine Run.seq ?_
      refine Run.region ?_
      refine Ops.ex (Ex.move rfl) rfl rfl rfl ?_
      refine Ops.ex (Ex.assign rfl) rfl rfl rfl ?_
      refine Ops.nil ?_
      obtain rfl := Option.some.inj hf
      exact Run.retV [vi (i3 : Int)] rfl ⟨rfl, trivial⟩ ⟨z29, rfl, hz23, hst29⟩
    · replace hf := ifFb hc hf
      refine Run.skip ?_
      refine Run.endBlk ?_
      refine Run.region ?_
      refine Ops.ex (Ex.add rfl rfl) rfl rfl rfl ?_
      refine Ops.ex (Ex.move rfl) rfl rfl rfl ?_
      refine Ops.nil ?_
      refine Run.re 8 rfl (congrArg vi (wr_succ' hl3 hc3)) ?_
      exact Run.sub (by exact subB_spec ⟨rfl, rfl, rfl, rfl, trivial⟩) (Run.stop ⟨p0.length - (i3 + 1), by omega, i3 + 1, z29, rfl, by omega, (hnxb3 _).symm.trans hf, rfl, hz23, hst29⟩)
  · replace hf := forL_out hf (nlt_of_dec hc)
    try dsimp only at hf
    refine Run.exit _ rfl ?_
    refine Run.seq ?_
    refine Run.region ?_
    refine Ops.ex (Ex.assign rfl) rfl rfl rfl ?_
    refine Ops.nil ?_
    obtain rfl := Option.some.inj hf
    exact Run.retV [vi (-1)] rfl ⟨rfl, trivial⟩ ⟨z22, rfl, hz23, hst23⟩
def go_edits_Find (p0 : editsSet) (p1 : Str) : Option Int :=
  (go_slices_IndexFunc_api_Ref_api_Ref_edits_Find_c1 p0.Refs p1).bind fun y6 => some y6
set_option maxRecDepth 100000 in
set_option maxHeartbeats 4000000 in
theorem go_edits_Find.walk {w0 w : World} {X : List Res} {z0 : Zp} {p0 : editsSet} {A1 : Option Addr} {c1 : Nat} {p1 : Str} {r : Int} (hst : Ht w0 (frz z0 :: X) w) (f1 : Sl tapiRef z0 A1 c1 p0.Refs) (hf : go_edits_Find p0 p1 = some r) :
    Calls Try.prog 21 #[.agg #[.slice A1 p0.Refs.length c1, vi p0.Floor], vs p1] w fun e w' => ∃ (z' : Zp), e = .returned (vi r) ∧ Le z0 z' ∧ Ht w0 (frz z' :: X) w' := by
  refine calls_np Try.func21 rfl rfl ?_
  have hle0 := Le.refl z0
  unfold go_edits_Find at hf
  refine Run.seq ?_
  refine Run.region ?_
  refine Ops.boxF [.slice A1 p0.Refs.length c1, vi p0.Floor] hst rfl rfl rfl (fun g4 w4 hst4 => ?_)
  refine Ops.boxF [vs p1] hst4 rfl rfl rfl (fun g5 w5 hst5 => ?_)
  refine Ops.ex (Ex.assign rfl) rfl rfl rfl ?_
  refine Ops.nil ?_
  refine Run.seq ?_
  refine Run.region ?_
  refine Ops.ex (Ex.fieldAddr rfl Try.underlying27 rfl sz25) rfl rfl rfl ?_
  refine Ops.load rfl Try.underlying25 rfl (hst5.cell (i := 2) rfl rfl) rfl ?_
  refine Ops.ex (Ex.funcE rfl rfl) rfl rfl rfl ?_
  obtain ⟨y6, hy6, hf⟩ := bnd hf
  refine Ops.call rfl rfl Try.func29 (by kernel_rfl) (by kernel_rfl) rfl (go_slices_IndexFunc_api_Ref_api_Ref_edits_Find_c1.walk (p0 := p0.Refs) (p1_0 := p1) (hst := hst5) (f1 := f1) (hf := hy6)) ?_
  rintro _ w6 ⟨z6, rfl, hz6, hst6⟩
  refine ⟨_, rfl, ?_⟩
  replace f1 := f1.mono hz6
  replace hle0 := hle0.trans hz6
  refine Ops.ex (Ex.assign rfl) rfl rfl rfl ?_
  refine Ops.nil ?_
  obtain rfl := Option.some.inj hf
  exact Run.retV [vi y6] rfl ⟨rfl, trivial⟩ ⟨z6, rfl, hle0, (St.forget (St.forget hst6 2) 1)⟩
def go_edits_May (p0 : apiRef) : Option Bool :=
  if p0.Name = [] then (some false) else (if (p0.Name.length : Int) ≤ 16 then (if 0 ≤ p0.Kind then (if p0.Kind < 3 then (if 0 ≤ p0.From then (if p0.From ≤ p0.To then (if p0.To ≤ 1048576 then (if p0.Kind = 0 then (some (decide (p0.From = p0.To))) else (some true)) else (some false)) else (some false)) else (some false)) else (some false)) else (some false)) else (some false))
set_option maxRecDepth 100000 in
set_option maxHeartbeats 4000000 in
theorem go_edits_May.walk {w0 w : World} {X : List Res} {z0 : Zp} {p0 : apiRef} {r : Bool} (hst : Ht w0 (frz z0 :: X) w) (hf : go_edits_May p0 = some r) :
    Calls Try.prog 23 #[.agg #[vs p0.Name, vi p0.Kind, vi p0.From, vi p0.To]] w fun e w' => ∃ (z' : Zp), e = .returned (vb r) ∧ Le z0 z' ∧ Ht w0 (frz z' :: X) w' := by
  refine calls_np Try.func23 rfl rfl ?_
  have hle0 := Le.refl z0
  unfold go_edits_May at hf
  refine Run.seq ?_
  refine Run.region ?_
  refine Ops.boxF [vs p0.Name, vi p0.Kind, vi p0.From, vi p0.To] hst rfl rfl rfl (fun g5 w5 hst5 => ?_)
  refine Ops.ex (Ex.assign rfl) rfl rfl rfl ?_
  refine Ops.nil ?_
  refine Run.seq ?_
  refine Run.region ?_
  refine Ops.ex (Ex.fieldAddr rfl Try.underlying37 rfl sz9) rfl rfl rfl ?_
  refine Ops.load rfl Try.underlying9 rfl (hst5.cell (i := 1) rfl rfl) rfl ?_
  refine Ops.ex (Ex.neqT (t := []) rfl rfl) rfl rfl rfl ?_
  refine Ops.ex (Ex.move rfl) rfl rfl rfl ?_
  refine Ops.case 6 rfl (fun hc => ?_) (fun hc => ?_)
  · replace hf := ifF (neq_T hc) hf
    refine Ops.on rfl ?_
    refine Ops.ex (Ex.fieldAddr rfl Try.underlying37 rfl sz9) rfl rfl rfl ?_
    refine Ops.on rfl ?_
    refine Ops.load rfl Try.underlying9 rfl (hst5.cell (i := 1) rfl rfl) rfl ?_
    refine Ops.on rfl ?_
    refine Ops.ex (Ex.lenT rfl rfl rfl Try.underlying9) rfl rfl rfl ?_
    refine Ops.on rfl ?_
    refine Ops.ex (Ex.leq rfl rfl) rfl rfl rfl ?_
    refine Ops.ex (Ex.pickT rfl rfl) rfl rfl rfl ?_
    refine Ops.ex (Ex.move rfl) rfl rfl rfl ?_
    refine Ops.case 12 rfl (fun hc => ?_) (fun hc => ?_)
    · replace hf := ifT (dec_T hc) hf
      refine Ops.on rfl ?_
      refine Ops.ex (Ex.fieldAddr rfl Try.underlying37 rfl sz35) rfl rfl rfl ?_
      refine Ops.on rfl ?_
      refine Ops.load rfl Try.underlying35 rfl (hst5.cell (i := 1) rfl rfl) rfl ?_
      refine Ops.on rfl ?_
      refine Ops.ex (Ex.geq rfl rfl) rfl rfl rfl ?_
      refine Ops.ex (Ex.pickT rfl rfl) rfl rfl rfl ?_
      refine Ops.ex (Ex.move rfl) rfl rfl rfl ?_
      refine Ops.case 17 rfl (fun hc => ?_) (fun hc => ?_)
      · replace hf := ifT (dec_T hc) hf
        refine Ops.on rfl ?_
        refine Ops.ex (Ex.fieldAddr rfl Try.underlying37 rfl sz35) rfl rfl rfl ?_
        refine Ops.on rfl ?_
        refine Ops.load rfl Try.underlying35 rfl (hst5.cell (i := 1) rfl rfl) rfl ?_
        refine Ops.on rfl ?_
        refine Ops.ex (Ex.lss rfl rfl) rfl rfl rfl ?_
        refine Ops.ex (Ex.pickT rfl rfl) rfl rfl rfl ?_
        refine Ops.ex (Ex.move rfl) rfl rfl rfl ?_
        refine Ops.case 22 rfl (fun hc => ?_) (fun hc => ?_)
        · replace hf := ifT (dec_T hc) hf
          refine Ops.on rfl ?_
          refine Ops.ex (Ex.fieldAddr rfl Try.underlying37 rfl sz3) rfl rfl rfl ?_
          refine Ops.on rfl ?_
          refine Ops.load rfl Try.underlying3 rfl (hst5.cell (i := 1) rfl rfl) rfl ?_
          refine Ops.on rfl ?_
          refine Ops.ex (Ex.geq rfl rfl) rfl rfl rfl ?_
          refine Ops.ex (Ex.pickT rfl rfl) rfl rfl rfl ?_
          refine Ops.ex (Ex.move rfl) rfl rfl rfl ?_
          refine Ops.case 27 rfl (fun hc => ?_) (fun hc => ?_)
          · replace hf := ifT (dec_T hc) hf
            refine Ops.on rfl ?_
            refine Ops.ex (Ex.fieldAddr rfl Try.underlying37 rfl sz3) rfl rfl rfl ?_
            refine Ops.on rfl ?_
            refine Ops.load rfl Try.underlying3 rfl (hst5.cell (i := 1) rfl rfl) rfl ?_
            refine Ops.on rfl ?_
            refine Ops.ex (Ex.fieldAddr rfl Try.underlying37 rfl sz3) rfl rfl rfl ?_
            refine Ops.on rfl ?_
            refine Ops.load rfl Try.underlying3 rfl (hst5.cell (i := 1) rfl rfl) rfl ?_
            refine Ops.on rfl ?_
            refine Ops.ex (Ex.leq rfl rfl) rfl rfl rfl ?_
            refine Ops.ex (Ex.pickT rfl rfl) rfl rfl rfl ?_
            refine Ops.ex (Ex.move rfl) rfl rfl rfl ?_
            refine Ops.case 34 rfl (fun hc => ?_) (fun hc => ?_)
            · replace hf := ifT (dec_T hc) hf
              refine Ops.on rfl ?_
              refine Ops.ex (Ex.fieldAddr rfl Try.underlying37 rfl sz3) rfl rfl rfl ?_
              refine Ops.on rfl ?_
              refine Ops.load rfl Try.underlying3 rfl (hst5.cell (i := 1) rfl rfl) rfl ?_
              refine Ops.on rfl ?_
              refine Ops.ex (Ex.leq rfl rfl) rfl rfl rfl ?_
              refine Ops.ex (Ex.pickT rfl rfl) rfl rfl rfl ?_
              refine Ops.ex (Ex.move rfl) rfl rfl rfl ?_
              refine Ops.case 39 rfl (fun hc => ?_) (fun hc => ?_)
              · replace hf := ifT (dec_T hc) hf
                refine Ops.on rfl ?_
                refine Ops.ex (Ex.fieldAddr rfl Try.underlying37 rfl sz35) rfl rfl rfl ?_
                refine Ops.on rfl ?_
                refine Ops.load rfl Try.underlying35 rfl (hst5.cell (i := 1) rfl rfl) rfl ?_
                refine Ops.on rfl ?_
                refine Ops.ex (Ex.neqI rfl rfl) rfl rfl rfl ?_
                refine Ops.on rfl ?_
                refine Ops.ex (Ex.move rfl) rfl rfl rfl ?_
                refine Ops.case 43 rfl (fun hc => ?_) (fun hc => ?_)
                · replace hf := ifF (neq_T hc) hf
                  refine Ops.off rfl rfl ?_
                  refine Ops.off rfl rfl ?_
                  refine Ops.off rfl rfl ?_
                  refine Ops.off rfl rfl ?_
                  refine Ops.off rfl rfl ?_
                  refine Ops.on rfl ?_
                  refine Ops.ex (Ex.pickT rfl rfl) rfl rfl rfl ?_
                  refine Ops.ex (Ex.pickT rfl rfl) rfl rfl rfl ?_
                  refine Ops.ex (Ex.assign rfl) rfl rfl rfl ?_
                  refine Ops.nil ?_
                  obtain rfl := Option.some.inj hf
                  exact Run.retV [vb true] rfl ⟨rfl, trivial⟩ ⟨z0, rfl, hle0, (St.forget hst5 1)⟩
                · replace hf := ifT (neq_F hc) hf
                  refine Ops.on rfl ?_
                  refine Ops.ex (Ex.fieldAddr rfl Try.underlying37 rfl sz3) rfl rfl rfl ?_
                  refine Ops.on rfl ?_
                  refine Ops.load rfl Try.underlying3 rfl (hst5.cell (i := 1) rfl rfl) rfl ?_
                  refine Ops.on rfl ?_
                  refine Ops.ex (Ex.fieldAddr rfl Try.underlying37 rfl sz3) rfl rfl rfl ?_
                  refine Ops.on rfl ?_
                  refine Ops.load rfl Try.underlying3 rfl (hst5.cell (i := 1) rfl rfl) rfl ?_
                  refine Ops.on rfl ?_
                  refine Ops.ex (Ex.eqlI rfl rfl) rfl rfl rfl ?_
                  refine Ops.on rfl ?_
                  refine Ops.ex (Ex.pickF rfl rfl) rfl rfl rfl ?_
                  refine Ops.ex (Ex.pickT rfl rfl) rfl rfl rfl ?_
                  refine Ops.ex (Ex.assign rfl) rfl rfl rfl ?_
                  refine Ops.nil ?_
                  obtain rfl := Option.some.inj hf
                  exact Run.retV [vb (decide (p0.From = p0.To))] rfl ⟨rfl, trivial⟩ ⟨z0, rfl, hle0, (St.forget hst5 1)⟩
              · replace hf := ifF (dec_F hc) hf
                refine Ops.off rfl rfl ?_
                refine Ops.off rfl rfl ?_
                refine Ops.off rfl rfl ?_
                refine Ops.off rfl rfl ?_
                refine Ops.offU rfl rfl ?_
                refine Ops.offU rfl rfl ?_
                refine Ops.offU rfl rfl ?_
                refine Ops.offU rfl rfl ?_
                refine Ops.offU rfl rfl ?_
                refine Ops.off rfl rfl ?_
                refine Ops.ex (Ex.pickF rfl rfl) rfl rfl rfl ?_
                refine Ops.ex (Ex.assign rfl) rfl rfl rfl ?_
                refine Ops.nil ?_
                obtain rfl := Option.some.inj hf
                exact Run.retV [vb false] rfl ⟨rfl, trivial⟩ ⟨z0, rfl, hle0, (St.forget hst5 1)⟩
            · replace hf := ifF (dec_F hc) hf
              refine Ops.off rfl rfl ?_
              refine Ops.off rfl rfl ?_
              refine Ops.off rfl rfl ?_
              refine Ops.ex (Ex.pickF rfl rfl) rfl rfl rfl ?_
              refine Ops.ex (Ex.move rfl) rfl rfl rfl ?_
              refine Ops.off rfl rfl ?_
              refine Ops.off rfl rfl ?_
              refine Ops.off rfl rfl ?_
              refine Ops.off rfl rfl ?_
              refine Ops.offU rfl rfl ?_
              refine Ops.offU rfl rfl ?_
              refine Ops.offU rfl rfl ?_
              refine Ops.offU rfl rfl ?_
              refine Ops.offU rfl rfl ?_
              refine Ops.off rfl rfl ?_
              refine Ops.ex (Ex.pickF rfl rfl) rfl rfl rfl ?_
              refine Ops.ex (Ex.assign rfl) rfl rfl rfl ?_
              refine Ops.nil ?_
              obtain rfl := Option.some.inj hf
              exact Run.retV [vb false] rfl ⟨rfl, trivial⟩ ⟨z0, rfl, hle0, (St.forget hst5 1)⟩
          · replace hf := ifF (dec_F hc) hf
            refine Ops.off rfl rfl ?_
            refine Ops.off rfl rfl ?_
            refine Ops.off rfl rfl ?_
            refine Ops.off rfl rfl ?_
            refine Ops.off rfl rfl ?_
            refine Ops.ex (Ex.pickF rfl rfl) rfl rfl rfl ?_
            refine Ops.ex (Ex.move rfl) rfl rfl rfl ?_
            refine Ops.off rfl rfl ?_
            refine Ops.off rfl rfl ?_
            refine Ops.off rfl rfl ?_
            refine Ops.ex (Ex.pickF rfl rfl) rfl rfl rfl ?_
            refine Ops.ex (Ex.move rfl) rfl rfl rfl ?_
            refine Ops.off rfl rfl ?_
            refine Ops.off rfl rfl ?_
            refine Ops.off rfl rfl ?_
            refine Ops.off rfl rfl ?_
            refine Ops.offU rfl rfl ?_
            refine Ops.offU rfl rfl ?_
            refine Ops.offU rfl rfl ?_
            refine Ops.offU rfl rfl ?_
            refine Ops.offU rfl rfl ?_
            refine Ops.off rfl rfl ?_
            refine Ops.ex (Ex.pickF rfl rfl) rfl rfl rfl ?_
            refine Ops.ex (Ex.assign rfl) rfl rfl rfl ?_
            refine Ops.nil ?_
            obtain rfl := Option.some.inj hf
            exact Run.retV [vb false] rfl ⟨rfl, trivial⟩ ⟨z0, rfl, hle0, (St.forget hst5 1)⟩
        · replace hf := ifF (dec_F hc) hf
          refine Ops.off rfl rfl ?_
          refine Ops.off rfl rfl ?_
          refine Ops.off rfl rfl ?_
          refine Ops.ex (Ex.pickF rfl rfl) rfl rfl rfl ?_
          refine Ops.ex (Ex.move rfl) rfl rfl rfl ?_
          refine Ops.off rfl rfl ?_
          refine Ops.off rfl rfl ?_
          refine Ops.off rfl rfl ?_
          refine Ops.off rfl rfl ?_
          refine Ops.off rfl rfl ?_
          refine Ops.ex (Ex.pickF rfl rfl) rfl rfl rfl ?_
          refine Ops.ex (Ex.move rfl) rfl rfl rfl ?_
          refine Ops.off rfl rfl ?_
          refine Ops.off rfl rfl ?_
          refine Ops.off rfl rfl ?_
          refine Ops.ex (Ex.pickF rfl rfl) rfl rfl rfl ?_
          refine Ops.ex (Ex.move rfl) rfl rfl rfl ?_
          refine Ops.off rfl rfl ?_
          refine Ops.off rfl rfl ?_
          refine Ops.off rfl rfl ?_
          refine Ops.off rfl rfl ?_
          refine Ops.offU rfl rfl ?_
          refine Ops.offU rfl rfl ?_
          refine Ops.offU rfl rfl ?_
          refine Ops.offU rfl rfl ?_
          refine Ops.offU rfl rfl ?_
          refine Ops.off rfl rfl ?_
          refine Ops.ex (Ex.pickF rfl rfl) rfl rfl rfl ?_
          refine Ops.ex (Ex.assign rfl) rfl rfl rfl ?_
          refine Ops.nil ?_
          obtain rfl := Option.some.inj hf
          exact Run.retV [vb false] rfl ⟨rfl, trivial⟩ ⟨z0, rfl, hle0, (St.forget hst5 1)⟩
      · replace hf := ifF (dec_F hc) hf
        refine Ops.off rfl rfl ?_
        refine Ops.off rfl rfl ?_
        refine Ops.off rfl rfl ?_
        refine Ops.ex (Ex.pickF rfl rfl) rfl rfl rfl ?_
        refine Ops.ex (Ex.move rfl) rfl rfl rfl ?_
        refine Ops.off rfl rfl ?_
        refine Ops.off rfl rfl ?_
        refine Ops.off rfl rfl ?_
        refine Ops.ex (Ex.pickF rfl rfl) rfl rfl rfl ?_
        refine Ops.ex (Ex.move rfl) rfl rfl rfl ?_
        refine Ops.off rfl rfl ?_
        refine Ops.off rfl rfl ?_
        refine Ops.off rfl rfl ?_
        refine Ops.off rfl rfl ?_
        refine Ops.off rfl rfl ?_
        refine Ops.ex (Ex.pickF rfl rfl) rfl rfl rfl ?_
        refine Ops.ex (Ex.move rfl) rfl rfl rfl ?_
        refine Ops.off rfl rfl ?_
        refine Ops.off rfl rfl ?_
        refine Ops.off rfl rfl ?_
        refine Ops.ex (Ex.pickF rfl rfl) rfl rfl rfl ?_
        refine Ops.ex (Ex.move rfl) rfl rfl rfl ?_
        refine Ops.off rfl rfl ?_
        refine Ops.off rfl rfl ?_
        refine Ops.off rfl rfl ?_
        refine Ops.off rfl rfl ?_
        refine Ops.offU rfl rfl ?_
        refine Ops.offU rfl rfl ?_
        refine Ops.offU rfl rfl ?_
        refine Ops.offU rfl rfl ?_
        refine Ops.offU rfl rfl ?_
        refine Ops.off rfl rfl ?_
        refine Ops.ex (Ex.pickF rfl rfl) rfl rfl rfl ?_
        refine Ops.ex (Ex.assign rfl) rfl rfl rfl ?_
        refine Ops.nil ?_
        obtain rfl := Option.some.inj hf
        exact Run.retV [vb false] rfl ⟨rfl, trivial⟩ ⟨z0, rfl, hle0, (St.forget hst5 1)⟩
    · replace hf := ifF (dec_F hc) hf
      refine Ops.off rfl rfl ?_
      refine Ops.off rfl rfl ?_
      refine Ops.off rfl rfl ?_
      refine Ops.ex (Ex.pickF rfl rfl) rfl rfl rfl ?_
      refine Ops.ex (Ex.move rfl) rfl rfl rfl ?_
      refine Ops.off rfl rfl ?_
      refine Ops.off rfl rfl ?_
      refine Ops.off rfl rfl ?_
      refine Ops.ex (Ex.pickF rfl rfl) rfl rfl rfl ?_
      refine Ops.ex (Ex.move rfl) rfl rfl rfl ?_
      refine Ops.off rfl rfl ?_
      refine Ops.off rfl rfl ?_
      refine Ops.off rfl rfl ?_
      refine Ops.ex (Ex.pickF rfl rfl) rfl rfl rfl ?_
      refine Ops.ex (Ex.move rfl) rfl rfl rfl ?_
      refine Ops.off rfl rfl ?_
      refine Ops.off rfl rfl ?_
      refine Ops.off rfl rfl ?_
      refine Ops.off rfl rfl ?_
      refine Ops.off rfl rfl ?_
      refine Ops.ex (Ex.pickF rfl rfl) rfl rfl rfl ?_
      refine Ops.ex (Ex.move rfl) rfl rfl rfl ?_
      refine Ops.off rfl rfl ?_
      refine Ops.off rfl rfl ?_
      refine Ops.off rfl rfl ?_
      refine Ops.ex (Ex.pickF rfl rfl) rfl rfl rfl ?_
      refine Ops.ex (Ex.move rfl) rfl rfl rfl ?_
      refine Ops.off rfl rfl ?_
      refine Ops.off rfl rfl ?_
      refine Ops.off rfl rfl ?_
      refine Ops.off rfl rfl ?_
      refine Ops.offU rfl rfl ?_
      refine Ops.offU rfl rfl ?_
      refine Ops.offU rfl rfl ?_
      refine Ops.offU rfl rfl ?_
      refine Ops.offU rfl rfl ?_
      refine Ops.off rfl rfl ?_
      refine Ops.ex (Ex.pickF rfl rfl) rfl rfl rfl ?_
      refine Ops.ex (Ex.assign rfl) rfl rfl rfl ?_
      refine Ops.nil ?_
      obtain rfl := Option.some.inj hf
      exact Run.retV [vb false] rfl ⟨rfl, trivial⟩ ⟨z0, rfl, hle0, (St.forget hst5 1)⟩
  · replace hf := ifT (neq_F hc) hf
    refine Ops.off rfl rfl ?_
    refine Ops.off rfl rfl ?_
    refine Ops.off rfl rfl ?_
    refine Ops.off rfl rfl ?_
    refine Ops.ex (Ex.pickF rfl rfl) rfl rfl rfl ?_
    refine Ops.ex (Ex.move rfl) rfl rfl rfl ?_
    refine Ops.off rfl rfl ?_
    refine Ops.off rfl rfl ?_
    refine Ops.off rfl rfl ?_
    refine Ops.ex (Ex.pickF rfl rfl) rfl rfl rfl ?_
    refine Ops.ex (Ex.move rfl) rfl rfl rfl ?_
    refine Ops.off rfl rfl ?_
    refine Ops.off rfl rfl ?_
    refine Ops.off rfl rfl ?_
    refine Ops.ex (Ex.pickF rfl rfl) rfl rfl rfl ?_
    refine Ops.ex (Ex.move rfl) rfl rfl rfl ?_
    refine Ops.off rfl rfl ?_
    refine Ops.off rfl rfl ?_
    refine Ops.off rfl rfl ?_
    refine Ops.ex (Ex.pickF rfl rfl) rfl rfl rfl ?_
    refine Ops.ex (Ex.move rfl) rfl rfl rfl ?_
    refine Ops.off rfl rfl ?_
    refine Ops.off rfl rfl ?_
    refine Ops.off rfl rfl ?_
    refine Ops.off rfl rfl ?_
    refine Ops.off rfl rfl ?_
    refine Ops.ex (Ex.pickF rfl rfl) rfl rfl rfl ?_
    refine Ops.ex (Ex.move rfl) rfl rfl rfl ?_
    refine Ops.off rfl rfl ?_
    refine Ops.off rfl rfl ?_
    refine Ops.off rfl rfl ?_
    refine Ops.ex (Ex.pickF rfl rfl) rfl rfl rfl ?_
    refine Ops.ex (Ex.move rfl) rfl rfl rfl ?_
    refine Ops.off rfl rfl ?_
    refine Ops.off rfl rfl ?_
    refine Ops.off rfl rfl ?_
    refine Ops.off rfl rfl ?_
    refine Ops.offU rfl rfl ?_
    refine Ops.offU rfl rfl ?_
    refine Ops.offU rfl rfl ?_
    refine Ops.offU rfl rfl ?_
    refine Ops.offU rfl rfl ?_
    refine Ops.off rfl rfl ?_
    refine Ops.ex (Ex.pickF rfl rfl) rfl rfl rfl ?_
    refine Ops.ex (Ex.assign rfl) rfl rfl rfl ?_
    refine Ops.nil ?_
    obtain rfl := Option.some.inj hf
    exact Run.retV [vb false] rfl ⟨rfl, trivial⟩ ⟨z0, rfl, hle0, (St.forget hst5 1)⟩
def go_edits_Do.b2 (x22 : Int) (i243 : Nat) (a243 : apiRef) : (List apiRef) → (List apiRef → Option (editsSet × Int)) → Option (editsSet × Int) :=
  fun l301 nxb243 => (go_edits_May a243).bind fun y310 => if y310 then ((go_edits_Find (⟨l301, x22⟩ : editsSet) a243.Name).bind fun y313 => if 0 ≤ y313 then (some ((⟨[], 0⟩ : editsSet), 5)) else ((apB 40 l301 [a243]).bind fun l319 => nxb243 l319)) else (some ((⟨[], 0⟩ : editsSet), 14))
def go_edits_Do.b1 (x22 : Int) (i33 : Nat) (a33 : Str) : (List apiRef) → (List apiRef → Option (editsSet × Int)) → Option (editsSet × Int) :=
  fun l231 nxb33 => (go_edits_Find (⟨l231, x22⟩ : editsSet) a33).bind fun y235 => if y235 < 0 then (some ((⟨[], 0⟩ : editsSet), 6)) else ((go_slices_Delete_api_Ref_api_Ref l231 y235 (wr (y235 + 1))).bind fun y240 => nxb33 y240)
def go_edits_Do.j1 (p0 : editsSet) (p1 : editsEdit) (l21 : List apiRef) (x22 : Int) : Option (editsSet × Int) :=
  forL (go_edits_Do.b1 x22) (fun l231 => forL (go_edits_Do.b2 x22) (fun l301 => if p1.Floor < p0.Floor then (some ((⟨[], 0⟩ : editsSet), 8)) else (if 1048576 < p1.Floor then (some ((⟨[], 0⟩ : editsSet), 8)) else ((S1.go_sortRef l301).bind fun y323 => some ((⟨y323, x22⟩ : editsSet), 0)))) 0 p1.Add l231) 0 p1.Drop l21
def go_edits_Do (p0 : editsSet) (p1 : editsEdit) : Option (editsSet × Int) :=
  (go_slices_Clone_api_Ref_api_Ref p0.Refs).bind fun y24 => go_edits_Do.j1 p0 p1 y24 p1.Floor
set_option maxRecDepth 100000 in
set_option maxHeartbeats 4000000 in
theorem go_edits_Do.walk {w0 w : World} {X : List Res} {z0 : Zp} {p0 : editsSet} {A1 : Option Addr} {c1 : Nat} {p1 : editsEdit} {A3 : Option Addr} {c3 : Nat} {A4 : Option Addr} {c4 : Nat} {r : editsSet × Int} (hst : Ht w0 (frz z0 :: X) w) (f1 : Sl tapiRef z0 A1 c1 p0.Refs) (f3 : Sl tapiRef z0 A3 c3 p1.Add) (f4 : Sl tS z0 A4 c4 p1.Drop) (hf : go_edits_Do p0 p1 = some r) :
    Calls Try.prog 18 #[.agg #[.slice A1 p0.Refs.length c1, vi p0.Floor], .agg #[.slice A3 p1.Add.length c3, .slice A4 p1.Drop.length c4, vi p1.Floor]] w fun e w' => ∃ (z' : Zp) (A9001 : Option Addr) (c9001 : Nat), e = .returned (.tuple #[.agg #[.slice A9001 r.1.Refs.length c9001, vi r.1.Floor], vi r.2]) ∧ Le z0 z' ∧ Sl tapiRef z' A9001 c9001 r.1.Refs ∧ Ht w0 (frz z' :: X) w' := by
  refine calls_np Try.func18 rfl rfl ?_
  have hle0 := Le.refl z0
  unfold go_edits_Do at hf
  refine Run.seq ?_
  refine Run.region ?_
  refine Ops.boxF [.slice A1 p0.Refs.length c1, vi p0.Floor] hst rfl rfl rfl (fun g6 w6 hst6 => ?_)
  refine Ops.boxF [.slice A3 p1.Add.length c3, .slice A4 p1.Drop.length c4, vi p1.Floor] hst6 rfl rfl rfl (fun g7 w7 hst7 => ?_)
  refine Ops.allocF [.slice none 0 0, vi 0] hst7 zr27 rfl rfl (fun g8 w8 hst8 => ?_)
  refine Ops.ex (Ex.assign rfl) rfl rfl rfl ?_
  refine Ops.nil ?_
  refine Run.seq ?_
  apply Run.jn (fun e' w' => ∃ (l21 : List apiRef) (x22 : Int) (g20 : Nat) (A21 : Option Addr) (c21 : Nat) (d21 : List Value) (z19 : Zp), go_edits_Do.j1 p0 p1 l21 x22 = some r ∧ e' = [(2, .pointer (some ⟨g6, 0, none⟩)), (3, .pointer (some ⟨g7, 0, none⟩)), (4, .pointer (some ⟨g8, 0, none⟩)), (6, .pointer (some ⟨g20, 0, none⟩))] ∧ Le z0 z19 ∧ Cs tapiRef z19 d21 l21 ∧ Ht w0 (frz z19 :: (orow 37 4 (.slice A21 l21.length c21) l21.length d21) :: (blk g8 [.slice none 0 0, vi 0] 27) :: (blk g7 [.slice A3 p1.Add.length c3, .slice A4 p1.Drop.length c4, vi p1.Floor] 54) :: (blk g6 [.slice A1 p0.Refs.length c1, vi p0.Floor] 27) :: (blk g20 [.slice A21 l21.length c21, vi x22] 27) :: X) w')
  · intro hj9
    refine Run.drawH [([], fun w => ∃ ζ Y, Le z0 ζ ∧ Ht w0 (frz ζ :: (blk g8 [.slice none 0 0, vi 0] 27) :: (blk g7 [.slice A3 p1.Add.length c3, .slice A4 p1.Drop.length c4, vi p1.Floor] 54) :: (blk g6 [.slice A1 p0.Refs.length c1, vi p0.Floor] 27) :: Y) w)] (by kernel_rfl) hst8 (fun w23 hst23 => ?_)
    have hS0 := (⟨_, _, (Le.refl _), (St.up (St.up (St.up (St.up hst23 3 rfl) 3 rfl) 3 rfl) 3 rfl)⟩ : (fun w => ∃ ζ Y, Le z0 ζ ∧ Ht w0 (frz ζ :: (blk g8 [.slice none 0 0, vi 0] 27) :: (blk g7 [.slice A3 p1.Add.length c3, .slice A4 p1.Drop.length c4, vi p1.Floor] 54) :: (blk g6 [.slice A1 p0.Refs.length c1, vi p0.Floor] 27) :: Y) w) _)
    refine Any.takeE 0 rfl rfl rfl rfl (by kernel_rfl) (fun _ _ _ _ _ h => h) ((Ex.fieldAddr rfl Try.underlying27 rfl sz25).s) ?_
    refine Any.take 0 1 rfl rfl rfl rfl rfl (by kernel_rfl) (fun _ _ _ _ _ h => h) (ExS.load rfl Try.underlying25 rfl (fun w hS => by obtain ⟨_, _, _, hs⟩ := hS; exact hs.cell (i := 3) rfl rfl)) hS0 ?_
    refine Any.takeE 3 rfl rfl rfl rfl (by kernel_rfl) (fun _ _ _ _ _ h => h) ((Ex.fieldAddr rfl Try.underlying54 rfl sz3).s) ?_
    refine Any.take 0 4 rfl rfl rfl rfl rfl (by kernel_rfl) (fun _ _ _ _ _ h => h) (ExS.load rfl Try.underlying3 rfl (fun w hS => by obtain ⟨_, _, _, hs⟩ := hS; exact hs.cell (i := 2) rfl rfl)) hS0 ?_
    refine Any.all [2, 6] (by kernel_rfl) rfl (fun i hi => ?_)
    simp only [List.mem_cons, List.not_mem_nil, or_false] at hi
    rcases hi with rfl | rfl
    · skip
      obtain ⟨y24, hy24, hf⟩ := bnd hf
      refine ⟨_, rfl, rfl, One.of_ops rfl ?_⟩
      refine Ops.call rfl rfl Try.func20 (by kernel_rfl) (by kernel_rfl) rfl (go_slices_Clone_api_Ref_api_Ref.walk (p0 := p0.Refs) (hst := hst23) (f1 := f1) (hf := hy24)) ?_
      rintro _ w24 ⟨z24, A25, c25, d25, rfl, hz24, f25, hst24⟩
      refine ⟨_, rfl, Ops.stop ?_⟩
      replace f1 := f1.mono hz24; replace f3 := f3.mono hz24; replace f4 := f4.mono hz24
      replace hle0 := hle0.trans hz24
      have hS0 := (⟨_, _, hle0, (St.up (St.up (St.up (St.up hst24 4 rfl) 4 rfl) 4 rfl) 3 rfl)⟩ : (fun w => ∃ ζ Y, Le z0 ζ ∧ Ht w0 (frz ζ :: (blk g8 [.slice none 0 0, vi 0] 27) :: (blk g7 [.slice A3 p1.Add.length c3, .slice A4 p1.Drop.length c4, vi p1.Floor] 54) :: (blk g6 [.slice A1 p0.Refs.length c1, vi p0.Floor] 27) :: Y) w) _)
      refine ⟨⟨.inr (fun _ => hS0), trivial⟩, ?_⟩
      refine Any.takeE 5 rfl rfl rfl rfl (by kernel_rfl) (fun _ _ _ _ _ h => h) ((Ex.build [.slice A25 y24.length c25, vi p1.Floor] rfl Try.underlying27 zr27 (pl27 Try.underlying27) (by kernel_rfl)).s) ?_
      refine Any.one 6 (by kernel_rfl) rfl rfl (One.of_ops rfl ?_)
      refine Ops.allocF [.slice none 0 0, vi 0] hst24 zr27 rfl rfl (fun g26 w26 hst26 => Ops.stop ?_)
      have hS0 := (⟨_, _, hle0, (St.up (St.up (St.up (St.up hst26 5 rfl) 5 rfl) 5 rfl) 3 rfl)⟩ : (fun w => ∃ ζ Y, Le z0 ζ ∧ Ht w0 (frz ζ :: (blk g8 [.slice none 0 0, vi 0] 27) :: (blk g7 [.slice A3 p1.Add.length c3, .slice A4 p1.Drop.length c4, vi p1.Floor] 54) :: (blk g6 [.slice A1 p0.Refs.length c1, vi p0.Floor] 27) :: Y) w) _)
      refine ⟨⟨.inr (fun _ => hS0), trivial⟩, ?_⟩
      refine Any.one 7 (by kernel_rfl) rfl rfl (One.of_ops rfl ?_)
      refine Ops.store 1 [.slice A25 y24.length c25, vi p1.Floor] hst26 rfl rfl rfl rfl sz27 rfl (by simp [Value.oneCell']) (by simp) (fun w27 hst27 => Ops.stop ?_)
      have hS0 := (⟨_, _, hle0, (St.up (St.up (St.up (St.up hst27 5 rfl) 5 rfl) 5 rfl) 3 rfl)⟩ : (fun w => ∃ ζ Y, Le z0 ζ ∧ Ht w0 (frz ζ :: (blk g8 [.slice none 0 0, vi 0] 27) :: (blk g7 [.slice A3 p1.Add.length c3, .slice A4 p1.Drop.length c4, vi p1.Floor] 54) :: (blk g6 [.slice A1 p0.Refs.length c1, vi p0.Floor] 27) :: Y) w) _)
      refine ⟨⟨.inr (fun _ => hS0), trivial⟩, ?_⟩
      refine Any.done (by kernel_rfl) ?_
      exact Run.sub (by exact subB_spec ⟨rfl, rfl, rfl, rfl, trivial⟩) (hj9 _ _ ⟨y24, p1.Floor, g26, A25, c25, d25, z24, hf, rfl, hle0, f25, (St.up (St.up (St.up (St.up (St.up (St.up hst27 1 rfl) 5 rfl) 5 rfl) 5 rfl) 5 rfl) 5 rfl)⟩)
    · skip
      refine ⟨_, rfl, rfl, One.of_ops rfl ?_⟩
      refine Ops.allocF [.slice none 0 0, vi 0] hst23 zr27 rfl rfl (fun g28 w28 hst28 => Ops.stop ?_)
      have hS0 := (⟨_, _, (Le.refl _), (St.up (St.up (St.up (St.up hst28 4 rfl) 4 rfl) 4 rfl) 3 rfl)⟩ : (fun w => ∃ ζ Y, Le z0 ζ ∧ Ht w0 (frz ζ :: (blk g8 [.slice none 0 0, vi 0] 27) :: (blk g7 [.slice A3 p1.Add.length c3, .slice A4 p1.Drop.length c4, vi p1.Floor] 54) :: (blk g6 [.slice A1 p0.Refs.length c1, vi p0.Floor] 27) :: Y) w) _)
      refine ⟨⟨.inr (fun _ => hS0), trivial⟩, ?_⟩
      obtain ⟨y29, hy29, hf⟩ := bnd hf
      refine Any.one 2 (by kernel_rfl) rfl rfl (One.of_ops rfl ?_)
      refine Ops.call rfl rfl Try.func20 (by kernel_rfl) (by kernel_rfl) rfl (go_slices_Clone_api_Ref_api_Ref.walk (p0 := p0.Refs) (hst := hst28) (f1 := f1) (hf := hy29)) ?_
      rintro _ w29 ⟨z29, A30, c30, d30, rfl, hz29, f30, hst29⟩
      refine ⟨_, rfl, Ops.stop ?_⟩
      replace f1 := f1.mono hz29; replace f3 := f3.mono hz29; replace f4 := f4.mono hz29
      replace hle0 := hle0.trans hz29
      have hS0 := (⟨_, _, hle0, (St.up (St.up (St.up (St.up hst29 5 rfl) 5 rfl) 5 rfl) 3 rfl)⟩ : (fun w => ∃ ζ Y, Le z0 ζ ∧ Ht w0 (frz ζ :: (blk g8 [.slice none 0 0, vi 0] 27) :: (blk g7 [.slice A3 p1.Add.length c3, .slice A4 p1.Drop.length c4, vi p1.Floor] 54) :: (blk g6 [.slice A1 p0.Refs.length c1, vi p0.Floor] 27) :: Y) w) _)
      refine ⟨⟨.inr (fun _ => hS0), trivial⟩, ?_⟩
      refine Any.takeE 5 rfl rfl rfl rfl (by kernel_rfl) (fun _ _ _ _ _ h => h) ((Ex.build [.slice A30 y29.length c30, vi p1.Floor] rfl Try.underlying27 zr27 (pl27 Try.underlying27) (by kernel_rfl)).s) ?_
      refine Any.one 7 (by kernel_rfl) rfl rfl (One.of_ops rfl ?_)
      refine Ops.store 2 [.slice A30 y29.length c30, vi p1.Floor] hst29 rfl rfl rfl rfl sz27 rfl (by simp [Value.oneCell']) (by simp) (fun w31 hst31 => Ops.stop ?_)
      have hS0 := (⟨_, _, hle0, (St.up (St.up (St.up (St.up hst31 5 rfl) 5 rfl) 5 rfl) 3 rfl)⟩ : (fun w => ∃ ζ Y, Le z0 ζ ∧ Ht w0 (frz ζ :: (blk g8 [.slice none 0 0, vi 0] 27) :: (blk g7 [.slice A3 p1.Add.length c3, .slice A4 p1.Drop.length c4, vi p1.Floor] 54) :: (blk g6 [.slice A1 p0.Refs.length c1, vi p0.Floor] 27) :: Y) w) _)
      refine ⟨⟨.inr (fun _ => hS0), trivial⟩, ?_⟩
      refine Any.done (by kernel_rfl) ?_
      exact Run.sub (by exact subB_spec ⟨rfl, rfl, rfl, rfl, trivial⟩) (hj9 _ _ ⟨y29, p1.Floor, g28, A30, c30, d30, z29, hf, rfl, hle0, f30, (St.up (St.up (St.up (St.up (St.up (St.up hst31 2 rfl) 5 rfl) 5 rfl) 5 rfl) 5 rfl) 5 rfl)⟩)
  · rintro e' w32 ⟨l21, x22, g20, A21, c21, d21, z19, hf, rfl, hz32, f21, hst32⟩
    replace f3 := f3.mono hz32; replace f4 := f4.mono hz32; replace f1 := f1.mono hz32
    unfold go_edits_Do.j1 at hf
    refine Run.seq ?_
    refine Run.seq ?_
    refine Run.region ?_
    refine Ops.ex (Ex.fieldAddr rfl Try.underlying54 rfl sz48) rfl rfl rfl ?_
    refine Ops.load rfl Try.underlying48 rfl (hst32.cell (i := 3) rfl rfl) rfl ?_
    refine Ops.ex (Ex.len' rfl rfl rfl Try.underlying48) rfl rfl rfl ?_
    refine Ops.ex (Ex.move rfl) rfl rfl rfl ?_
    refine Ops.nil ?_
    refine Run.block ?_
    have hc33 := f4.cap
    have hm34 := Le.refl z19
    refine Run.sub (e' := [(2, .pointer (some ⟨g6, 0, none⟩)), (3, .pointer (some ⟨g7, 0, none⟩)), (4, .pointer (some ⟨g8, 0, none⟩)), (6, .pointer (some ⟨g20, 0, none⟩)), (19, .slice A4 p1.Drop.length c4), (20, vi (p1.Drop.length : Int)), (21, vi ((0 : Nat) : Int))]) (subB_spec ⟨rfl, rfl, rfl, rfl, rfl, rfl, rfl, trivial⟩) ?_
    refine Run.loop (fun mb33 => (fun e' w' => ∃ (i33 : Nat) (l231 : List apiRef) (A231 : Option Addr) (c231 : Nat) (d231 : List Value) (z230 : Zp), mb33 = p1.Drop.length - i33 ∧ i33 ≤ p1.Drop.length ∧ forL (go_edits_Do.b1 x22) (fun l231 => forL (go_edits_Do.b2 x22) (fun l301 => if p1.Floor < p0.Floor then (some ((⟨[], 0⟩ : editsSet), 8)) else (if 1048576 < p1.Floor then (some ((⟨[], 0⟩ : editsSet), 8)) else ((S1.go_sortRef l301).bind fun y323 => some ((⟨y323, x22⟩ : editsSet), 0)))) 0 p1.Add l231) i33 (p1.Drop.drop i33) l231 = some r ∧ e' = [(2, .pointer (some ⟨g6, 0, none⟩)), (3, .pointer (some ⟨g7, 0, none⟩)), (4, .pointer (some ⟨g8, 0, none⟩)), (6, .pointer (some ⟨g20, 0, none⟩)), (19, .slice A4 p1.Drop.length c4), (20, vi (p1.Drop.length : Int)), (21, vi (i33 : Int))] ∧ Le z19 z230 ∧ Le z0 z230 ∧ Cs tapiRef z230 d231 l231 ∧ Ht w0 (frz z230 :: (orow 37 4 (.slice A231 l231.length c231) l231.length d231) :: (blk g8 [.slice none 0 0, vi 0] 27) :: (blk g7 [.slice A3 p1.Add.length c3, .slice A4 p1.Drop.length c4, vi p1.Floor] 54) :: (blk g6 [.slice A1 p0.Refs.length c1, vi p0.Floor] 27) :: (blk g20 [.slice A231 l231.length c231, vi x22] 27) :: X) w')) p1.Drop.length ⟨0, l21, A21, c21, d21, z19, rfl, Nat.zero_le _, hf, rfl, hm34, hz32, f21, hst32⟩ ?_
    rintro _ e' w232 ⟨i33, l231, A231, c231, d231, z230, rfl, hi33, hf, rfl, hz232, hy232_0, f231, hst232⟩
    replace f4 := f4.mono hz232; replace f3 := f3.mono hz232; replace f1 := f1.mono hz232
    refine Run.seq ?_
    refine Run.region ?_
    refine Ops.ex (Ex.lss rfl rfl) rfl rfl rfl ?_
    refine Ops.nil ?_
    refine Run.seq ?_
    refine Run.cond rfl (fun hc => ?_) (fun hc => ?_)
    · have hl33 := lt_of_dec hc
      obtain ⟨a33, nxb33, ha33, hnxb33, hf⟩ := forL_in hf hl33
      unfold go_edits_Do.b1 at hf
      try dsimp only at hf
      refine Run.skip ?_
      refine Run.seq ?_
      refine Run.block ?_
      refine Run.seq ?_
      refine Run.region ?_
      obtain ⟨g234, p234, o234, cs234, hA234, ho234, hr234, f234⟩ := SlH.elem f4.toH (atI_nat ha33)
      obtain rfl := hr234
      refine Ops.ex (Ex.ixA hA234 ho234 (atI_nat ha33) rfl rfl rfl Try.underlying48 sz9) rfl rfl rfl ?_
      refine Ops.load rfl Try.underlying9 rfl ((f234.mono hst232.le) 0 _ rfl) rfl ?_
      refine Ops.ex (Ex.assign rfl) rfl rfl rfl ?_
      refine Ops.nil ?_
      refine Run.seq ?_
      refine Run.region ?_
      refine Ops.loadAgg _ rfl Try.underlying27 rfl sz27 rfl (hst232.cells (i := 5) rfl 0 2) rfl ?_
      refine Ops.ex (Ex.move rfl) rfl rfl rfl ?_
      obtain ⟨z236, hz236, f236, hst236, hu236⟩ := St.lend (τ := tapiRef) (xs := l231) hst232 f231 rfl
      obtain ⟨y235, hy235, hf⟩ := bnd hf
      refine Ops.call rfl rfl Try.func21 (by kernel_rfl) (by kernel_rfl) rfl (go_edits_Find.walk (p0 := (⟨l231, x22⟩ : editsSet)) (p1 := a33) (hst := hst236) (f1 := f236) (hf := hy235)) ?_
      rintro _ w235 ⟨z235, rfl, hz235, hst235⟩
      obtain ⟨z238, hz238, hst238⟩ := hu236 _ _ _ hz235 hst235
      refine ⟨_, rfl, ?_⟩
      replace f4 := f4.mono hz238; replace f234 := f234.mono hz238; replace f231 := f231.mono hz238; replace f3 := f3.mono hz238; replace f1 := f1.mono hz238
      replace hy232_0 := hy232_0.trans hz238
      replace hz232 := hz232.trans hz238
      refine Ops.ex (Ex.assign rfl) rfl rfl rfl ?_
      refine Ops.nil ?_
      refine Run.seq ?_
      refine Run.seq ?_
      refine Run.region ?_
      refine Ops.ex (Ex.move rfl) rfl rfl rfl ?_
      refine Ops.ex (Ex.lss rfl rfl) rfl rfl rfl ?_
      refine Ops.nil ?_
      refine Run.cond rfl (fun hc => ?_) (fun hc => ?_)
      · replace hf := ifT (dec_T hc) hf
        refine Run.seq ?_
        refine Run.region ?_
        refine Ops.ex (Ex.build [.slice none 0 0, vi 0] rfl Try.underlying27 zr27 (pl27 Try.underlying27) (by kernel_rfl)) rfl rfl rfl ?_
        refine Ops.store 2 [.slice none 0 0, vi 0] hst238 rfl rfl rfl rfl sz27 rfl (by simp [Value.oneCell']) (by simp) (fun w239 hst239 => ?_)
        refine Ops.ex (Ex.assign rfl) rfl rfl rfl ?_
        refine Ops.nil ?_
        obtain rfl := Option.some.inj hf
        exact Run.retV [.agg #[.slice none 0 0, vi 0], vi 6] rfl ⟨⟨_, rfl, run_loadN _ Try.underlying27 rfl sz27 rfl (hst239.cells (i := 2) rfl 0 2)⟩, rfl, trivial⟩ ⟨z238, none, 0, rfl, hy232_0, (Sl.nil _ _), (St.forget (St.forget (St.forget (St.forget (St.forget hst239 5) 4) 3) 2) 1)⟩
      · replace hf := ifF (dec_F hc) hf
        refine Run.skip ?_
        refine Run.region ?_
        refine Ops.ex (Ex.fieldAddr rfl Try.underlying27 rfl sz25) rfl rfl rfl ?_
        refine Ops.load rfl Try.underlying25 rfl (hst238.cell (i := 5) rfl rfl) rfl ?_
        refine Ops.ex (Ex.move rfl) rfl rfl rfl ?_
        refine Ops.ex (Ex.move rfl) rfl rfl rfl ?_
        refine Ops.ex (Ex.add rfl rfl) rfl rfl rfl ?_
        obtain ⟨y240, hy240, hf⟩ := bnd hf
        refine Ops.call rfl rfl Try.func22 (by kernel_rfl) (by kernel_rfl) rfl (go_slices_Delete_api_Ref_api_Ref.walk (p0 := l231) (p1 := y235) (p2 := wr (y235 + 1)) (hst := hst238) (f1 := f231) (hf := hy240)) ?_
        rintro _ w240 ⟨z240, A241, c241, d241, rfl, hz240, f241, hst240⟩
        refine ⟨_, rfl, ?_⟩
        replace f4 := f4.mono hz240; replace f234 := f234.mono hz240; replace f3 := f3.mono hz240; replace f1 := f1.mono hz240
        replace hy232_0 := hy232_0.trans hz240
        replace hz232 := hz232.trans hz240
        refine Ops.ex (Ex.fieldAddr rfl Try.underlying27 rfl sz25) rfl rfl rfl ?_
        refine Ops.store 5 [.slice A241 y240.length c241] hst240 rfl rfl rfl rfl sz25 rfl (by simp [Value.oneCell']) (by simp) (fun w242 hst242 => ?_)
        refine Ops.nil ?_
        refine Run.endBlk ?_
        refine Run.region ?_
        refine Ops.ex (Ex.add rfl rfl) rfl rfl rfl ?_
        refine Ops.ex (Ex.move rfl) rfl rfl rfl ?_
        refine Ops.nil ?_
        refine Run.re 21 rfl (congrArg vi (wr_succ' hl33 hc33)) ?_
        exact Run.sub (by exact subB_spec ⟨rfl, rfl, rfl, rfl, rfl, rfl, rfl, trivial⟩) (Run.stop ⟨p1.Drop.length - (i33 + 1), by omega, i33 + 1, y240, A241, c241, d241, z240, rfl, by omega, (hnxb33 _).symm.trans hf, rfl, hz232, hy232_0, f241, hst242⟩)
    · replace hf := forL_out hf (nlt_of_dec hc)
      try dsimp only at hf
      refine Run.exit _ rfl ?_
      refine Run.seq ?_
      refine Run.seq ?_
      refine Run.region ?_
      refine Ops.ex (Ex.fieldAddr rfl Try.underlying54 rfl sz25) rfl rfl rfl ?_
      refine Ops.load rfl Try.underlying25 rfl (hst232.cell (i := 3) rfl rfl) rfl ?_
      refine Ops.ex (Ex.len' rfl rfl rfl Try.underlying25) rfl rfl rfl ?_
      refine Ops.ex (Ex.move rfl) rfl rfl rfl ?_
      refine Ops.nil ?_
      refine Run.block ?_
      have hc243 := f3.cap
      have hm244 := Le.refl z230
      refine Run.sub (e' := [(2, .pointer (some ⟨g6, 0, none⟩)), (3, .pointer (some ⟨g7, 0, none⟩)), (4, .pointer (some ⟨g8, 0, none⟩)), (6, .pointer (some ⟨g20, 0, none⟩)), (40, .slice A3 p1.Add.length c3), (41, vi (p1.Add.length : Int)), (42, vi ((0 : Nat) : Int))]) (subB_spec ⟨rfl, rfl, rfl, rfl, rfl, rfl, rfl, trivial⟩) ?_
      refine Run.loop (fun mb243 => (fun e' w' => ∃ (i243 : Nat) (l301 : List apiRef) (A301 : Option Addr) (c301 : Nat) (d301 : List Value) (z300 : Zp), mb243 = p1.Add.length - i243 ∧ i243 ≤ p1.Add.length ∧ forL (go_edits_Do.b2 x22) (fun l301 => if p1.Floor < p0.Floor then (some ((⟨[], 0⟩ : editsSet), 8)) else (if 1048576 < p1.Floor then (some ((⟨[], 0⟩ : editsSet), 8)) else ((S1.go_sortRef l301).bind fun y323 => some ((⟨y323, x22⟩ : editsSet), 0)))) i243 (p1.Add.drop i243) l301 = some r ∧ e' = [(2, .pointer (some ⟨g6, 0, none⟩)), (3, .pointer (some ⟨g7, 0, none⟩)), (4, .pointer (some ⟨g8, 0, none⟩)), (6, .pointer (some ⟨g20, 0, none⟩)), (40, .slice A3 p1.Add.length c3), (41, vi (p1.Add.length : Int)), (42, vi (i243 : Int))] ∧ Le z230 z300 ∧ Le z0 z300 ∧ Le z19 z300 ∧ Cs tapiRef z300 d301 l301 ∧ Ht w0 (frz z300 :: (orow 37 4 (.slice A301 l301.length c301) l301.length d301) :: (blk g8 [.slice none 0 0, vi 0] 27) :: (blk g7 [.slice A3 p1.Add.length c3, .slice A4 p1.Drop.length c4, vi p1.Floor] 54) :: (blk g6 [.slice A1 p0.Refs.length c1, vi p0.Floor] 27) :: (blk g20 [.slice A301 l301.length c301, vi x22] 27) :: X) w')) p1.Add.length ⟨0, l231, A231, c231, d231, z230, rfl, Nat.zero_le _, hf, rfl, hm244, hy232_0, hz232, f231, hst232⟩ ?_
      rintro _ e' w302 ⟨i243, l301, A301, c301, d301, z300, rfl, hi243, hf, rfl, hz302, hy302_0, hy302_1, f301, hst302⟩
      replace f3 := f3.mono hz302; replace f4 := f4.mono hz302; replace f1 := f1.mono hz302
      refine Run.seq ?_
      refine Run.region ?_
      refine Ops.ex (Ex.lss rfl rfl) rfl rfl rfl ?_
      refine Ops.nil ?_
      refine Run.seq ?_
      refine Run.cond rfl (fun hc => ?_) (fun hc => ?_)
      · have hl243 := lt_of_dec hc
        obtain ⟨a243, nxb243, ha243, hnxb243, hf⟩ := forL_in hf hl243
        unfold go_edits_Do.b2 at hf
        try dsimp only at hf
        refine Run.skip ?_
        refine Run.seq ?_
        refine Run.block ?_
        refine Run.seq ?_
        refine Run.region ?_
        obtain ⟨g307, p307, o307, cs307, hA307, ho307, hr307, f307⟩ := SlH.elem f3.toH (atI_nat ha243)
        obtain rfl := hr307
        refine Ops.ex (Ex.ixA hA307 ho307 (atI_nat ha243) rfl rfl rfl Try.underlying25 sz37) rfl rfl rfl ?_
        refine Ops.loadAgg [vs a243.Name, vi a243.Kind, vi a243.From, vi a243.To] rfl Try.underlying37 rfl sz37 rfl (cells_of_zc rfl (f307.mono hst302.le)) rfl ?_
        refine Ops.allocF [vs [], vi 0, vi 0, vi 0] hst302 zr37 rfl rfl (fun g308 w308 hst308 => ?_)
        refine Ops.store 1 [vs a243.Name, vi a243.Kind, vi a243.From, vi a243.To] hst308 rfl rfl rfl rfl sz37 rfl (by simp [Value.oneCell']) (by simp) (fun w309 hst309 => ?_)
        refine Ops.nil ?_
        refine Run.seq ?_
        refine Run.block ?_
        refine Run.seq ?_
        refine Run.region ?_
        refine Ops.loadAgg _ rfl Try.underlying37 rfl sz37 rfl (hst309.cells (i := 1) rfl 0 4) rfl ?_
        obtain ⟨y310, hy310, hf⟩ := bnd hf
        refine Ops.call rfl rfl Try.func23 (by kernel_rfl) (by kernel_rfl) rfl (go_edits_May.walk (p0 := a243) (hst := hst309) (hf := hy310)) ?_
        rintro _ w310 ⟨z310, rfl, hz310, hst310⟩
        refine ⟨_, rfl, ?_⟩
        replace f3 := f3.mono hz310; replace f307 := f307.mono hz310; replace f301 := f301.mono hz310; replace f4 := f4.mono hz310; replace f1 := f1.mono hz310
        replace hy302_0 := hy302_0.trans hz310
        replace hy302_1 := hy302_1.trans hz310
        replace hz302 := hz302.trans hz310
        refine Ops.ex (Ex.not rfl) rfl rfl rfl ?_
        refine Ops.ex (Ex.assign rfl) rfl rfl rfl ?_
        refine Ops.nil ?_
        refine Run.cond rfl (fun hc => ?_) (fun hc => ?_)
        · replace hf := ifFb (bn_T hc) hf
          refine Run.seq ?_
          refine Run.region ?_
          refine Ops.ex (Ex.build [.slice none 0 0, vi 0] rfl Try.underlying27 zr27 (pl27 Try.underlying27) (by kernel_rfl)) rfl rfl rfl ?_
          refine Ops.store 3 [.slice none 0 0, vi 0] hst310 rfl rfl rfl rfl sz27 rfl (by simp [Value.oneCell']) (by simp) (fun w312 hst312 => ?_)
          refine Ops.ex (Ex.assign rfl) rfl rfl rfl ?_
          refine Ops.nil ?_
          obtain rfl := Option.some.inj hf
          exact Run.retV [.agg #[.slice none 0 0, vi 0], vi 14] rfl ⟨⟨_, rfl, run_loadN _ Try.underlying27 rfl sz27 rfl (hst312.cells (i := 3) rfl 0 2)⟩, rfl, trivial⟩ ⟨z310, none, 0, rfl, hy302_0, (Sl.nil _ _), (St.forget (St.forget (St.forget (St.forget (St.forget (St.forget hst312 6) 5) 4) 3) 2) 1)⟩
        · replace hf := ifTb (bn_F hc) hf
          refine Run.seq ?_
          refine Run.region ?_
          refine Ops.loadAgg _ rfl Try.underlying27 rfl sz27 rfl (hst310.cells (i := 6) rfl 0 2) rfl ?_
          refine Ops.ex (Ex.fieldAddr rfl Try.underlying37 rfl sz9) rfl rfl rfl ?_
          refine Ops.load rfl Try.underlying9 rfl (hst310.cell (i := 1) rfl rfl) rfl ?_
          obtain ⟨z314, hz314, f314, hst314, hu314⟩ := St.lend (τ := tapiRef) (xs := l301) (St.up (St.up (St.up (St.up (St.up (St.up (St.up hst310 6 rfl) 6 rfl) 6 rfl) 6 rfl) 5 rfl) 6 rfl) 6 rfl) f301 rfl
          obtain ⟨y313, hy313, hf⟩ := bnd hf
          refine Ops.call rfl rfl Try.func21 (by kernel_rfl) (by kernel_rfl) rfl (go_edits_Find.walk (p0 := (⟨l301, x22⟩ : editsSet)) (p1 := a243.Name) (hst := hst314) (f1 := f314) (hf := hy313)) ?_
          rintro _ w313 ⟨z313, rfl, hz313, hst313⟩
          obtain ⟨z316, hz316, hst316⟩ := hu314 _ _ _ hz313 hst313
          refine ⟨_, rfl, ?_⟩
          replace f3 := f3.mono hz316; replace f307 := f307.mono hz316; replace f301 := f301.mono hz316; replace f4 := f4.mono hz316; replace f1 := f1.mono hz316
          replace hy302_0 := hy302_0.trans hz316
          replace hy302_1 := hy302_1.trans hz316
          replace hz302 := hz302.trans hz316
          refine Ops.ex (Ex.geq rfl rfl) rfl rfl rfl ?_
          refine Ops.ex (Ex.assign rfl) rfl rfl rfl ?_
          refine Ops.nil ?_
          refine Run.cond rfl (fun hc => ?_) (fun hc => ?_)
          · replace hf := ifT (dec_T hc) hf
            refine Run.seq ?_
            refine Run.region ?_
            refine Ops.ex (Ex.build [.slice none 0 0, vi 0] rfl Try.underlying27 zr27 (pl27 Try.underlying27) (by kernel_rfl)) rfl rfl rfl ?_
            refine Ops.store 3 [.slice none 0 0, vi 0] hst316 rfl rfl rfl rfl sz27 rfl (by simp [Value.oneCell']) (by simp) (fun w317 hst317 => ?_)
            refine Ops.ex (Ex.assign rfl) rfl rfl rfl ?_
            refine Ops.nil ?_
            obtain rfl := Option.some.inj hf
            exact Run.retV [.agg #[.slice none 0 0, vi 0], vi 5] rfl ⟨⟨_, rfl, run_loadN _ Try.underlying27 rfl sz27 rfl (hst317.cells (i := 3) rfl 0 2)⟩, rfl, trivial⟩ ⟨z316, none, 0, rfl, hy302_0, (Sl.nil _ _), (St.forget (St.forget (St.forget (St.forget (St.forget (St.forget hst317 6) 5) 4) 3) 2) 1)⟩
          · replace hf := ifF (dec_F hc) hf
            refine Run.skip ?_
            refine Run.endBlk ?_
            refine Run.region ?_
            refine Ops.ex (Ex.fieldAddr rfl Try.underlying27 rfl sz25) rfl rfl rfl ?_
            refine Ops.load rfl Try.underlying25 rfl (hst316.cell (i := 6) rfl rfl) rfl ?_
            refine Ops.loadAgg _ rfl Try.underlying37 rfl sz37 rfl (hst316.cells (i := 2) rfl 0 4) rfl ?_
            refine Ops.sliceF [vs a243.Name, vi a243.Kind, vi a243.From, vi a243.To] hst316 rfl Try.underlying25 sz37 zr37 rfl rfl (by kernel_rfl) rfl (by simp [Value.oneCell']) rfl (fun A318 w318 hst318 => ?_)
            have f318 : Cs tapiRef z316 [vs a243.Name, vi a243.Kind, vi a243.From, vi a243.To] [a243] := (Cs.cons (c := [vs a243.Name, vi a243.Kind, vi a243.From, vi a243.To]) rfl (Cs.nil _ _))
            obtain ⟨l319, hy319, hf⟩ := bnd hf
            refine Ops.app 2 hst318 rfl f301 rfl (own_slh f318 rfl (hst318.get (i := 1) rfl)) rfl hy319 rfl rfl rfl rfl Try.underlying25 inf37 rfl (by decide) (by decide) rfl (fun A319 c319 d319 w319 f319 hst319 => ?_)
            refine Ops.ex (Ex.fieldAddr rfl Try.underlying27 rfl sz25) rfl rfl rfl ?_
            refine Ops.store 7 [.slice A319 l319.length c319] hst319 rfl rfl rfl rfl sz25 rfl (by simp [Value.oneCell']) (by simp) (fun w320 hst320 => ?_)
            refine Ops.nil ?_
            refine Run.endBlk ?_
            refine Run.region ?_
            refine Ops.ex (Ex.add rfl rfl) rfl rfl rfl ?_
            refine Ops.ex (Ex.move rfl) rfl rfl rfl ?_
            refine Ops.nil ?_
            refine Run.re 42 rfl (congrArg vi (wr_succ' hl243 hc243)) ?_
            exact Run.sub (by exact subB_spec ⟨rfl, rfl, rfl, rfl, rfl, rfl, rfl, trivial⟩) (Run.stop ⟨p1.Add.length - (i243 + 1), by omega, i243 + 1, l319, A319, c319, d319, z316, rfl, by omega, (hnxb243 _).symm.trans hf, rfl, hz302, hy302_0, hy302_1, f319, (St.forget (St.forget hst320 3) 1)⟩)
      · replace hf := forL_out hf (nlt_of_dec hc)
        try dsimp only at hf
        refine Run.exit _ rfl ?_
        refine Run.seq ?_
        refine Run.seq ?_
        refine Run.region ?_
        refine Ops.ex (Ex.fieldAddr rfl Try.underlying54 rfl sz3) rfl rfl rfl ?_
        refine Ops.load rfl Try.underlying3 rfl (hst302.cell (i := 3) rfl rfl) rfl ?_
        refine Ops.ex (Ex.fieldAddr rfl Try.underlying27 rfl sz3) rfl rfl rfl ?_
        refine Ops.load rfl Try.underlying3 rfl (hst302.cell (i := 4) rfl rfl) rfl ?_
        refine Ops.ex (Ex.lss rfl rfl) rfl rfl rfl ?_
        refine Ops.ex (Ex.move rfl) rfl rfl rfl ?_
        refine Ops.case 70 rfl (fun hc => ?_) (fun hc => ?_)
        · replace hf := ifT (dec_T hc) hf
          refine Ops.off rfl rfl ?_
          refine Ops.off rfl rfl ?_
          refine Ops.off rfl rfl ?_
          refine Ops.ex (Ex.pickT rfl rfl) rfl rfl rfl ?_
          refine Ops.nil ?_
          refine Run.condT rfl rfl ?_
          refine Run.seq ?_
          refine Run.region ?_
          refine Ops.ex (Ex.build [.slice none 0 0, vi 0] rfl Try.underlying27 zr27 (pl27 Try.underlying27) (by kernel_rfl)) rfl rfl rfl ?_
          refine Ops.store 2 [.slice none 0 0, vi 0] hst302 rfl rfl rfl rfl sz27 rfl (by simp [Value.oneCell']) (by simp) (fun w321 hst321 => ?_)
          refine Ops.ex (Ex.assign rfl) rfl rfl rfl ?_
          refine Ops.nil ?_
          obtain rfl := Option.some.inj hf
          exact Run.retV [.agg #[.slice none 0 0, vi 0], vi 8] rfl ⟨⟨_, rfl, run_loadN _ Try.underlying27 rfl sz27 rfl (hst321.cells (i := 2) rfl 0 2)⟩, rfl, trivial⟩ ⟨z300, none, 0, rfl, hy302_0, (Sl.nil _ _), (St.forget (St.forget (St.forget (St.forget (St.forget hst321 5) 4) 3) 2) 1)⟩
        · replace hf := ifF (dec_F hc) hf
          refine Ops.on rfl ?_
          refine Ops.ex (Ex.fieldAddr rfl Try.underlying54 rfl sz3) rfl rfl rfl ?_
          refine Ops.on rfl ?_
          refine Ops.load rfl Try.underlying3 rfl (hst302.cell (i := 3) rfl rfl) rfl ?_
          refine Ops.on rfl ?_
          refine Ops.ex (Ex.gtr rfl rfl) rfl rfl rfl ?_
          refine Ops.ex (Ex.pickF rfl rfl) rfl rfl rfl ?_
          refine Ops.nil ?_
          refine Run.cond rfl (fun hc => ?_) (fun hc => ?_)
          · replace hf := ifT (dec_T hc) hf
            refine Run.seq ?_
            refine Run.region ?_
            refine Ops.ex (Ex.build [.slice none 0 0, vi 0] rfl Try.underlying27 zr27 (pl27 Try.underlying27) (by kernel_rfl)) rfl rfl rfl ?_
            refine Ops.store 2 [.slice none 0 0, vi 0] hst302 rfl rfl rfl rfl sz27 rfl (by simp [Value.oneCell']) (by simp) (fun w322 hst322 => ?_)
            refine Ops.ex (Ex.assign rfl) rfl rfl rfl ?_
            refine Ops.nil ?_
            obtain rfl := Option.some.inj hf
            exact Run.retV [.agg #[.slice none 0 0, vi 0], vi 8] rfl ⟨⟨_, rfl, run_loadN _ Try.underlying27 rfl sz27 rfl (hst322.cells (i := 2) rfl 0 2)⟩, rfl, trivial⟩ ⟨z300, none, 0, rfl, hy302_0, (Sl.nil _ _), (St.forget (St.forget (St.forget (St.forget (St.forget hst322 5) 4) 3) 2) 1)⟩
          · replace hf := ifF (dec_F hc) hf
            refine Run.skip ?_
            refine Run.seq ?_
            refine Run.region ?_
            refine Ops.ex (Ex.fieldAddr rfl Try.underlying27 rfl sz25) rfl rfl rfl ?_
            refine Ops.load rfl Try.underlying25 rfl (hst302.cell (i := 5) rfl rfl) rfl ?_
            obtain ⟨y323, hy323, hf⟩ := bnd hf
            refine Ops.call rfl rfl Try.func24 (by kernel_rfl) (by kernel_rfl) rfl (S1.go_sortRef.walk (p0 := l301) (hst := hst302) (f1 := f301) (hn1 := rfl) (hf := hy323)) ?_
            rintro _ w323 ⟨z323, d324, rfl, hz323, f324, hn324, hst323⟩
            refine ⟨_, rfl, ?_⟩
            replace f3 := f3.mono hz323; replace f4 := f4.mono hz323; replace f1 := f1.mono hz323
            replace hy302_0 := hy302_0.trans hz323
            replace hy302_1 := hy302_1.trans hz323
            replace hz302 := hz302.trans hz323
            refine Ops.nil ?_
            refine Run.seq ?_
            refine Run.region ?_
            refine Ops.loadAgg _ rfl Try.underlying27 rfl sz27 rfl (hst323.cells (i := 5) rfl 0 2) rfl ?_
            refine Ops.store 2 [.slice A301 l301.length c301, vi x22] hst323 rfl rfl rfl rfl sz27 rfl (by simp [Value.oneCell']) (by simp) (fun w325 hst325 => ?_)
            refine Ops.ex (Ex.assign rfl) rfl rfl rfl ?_
            refine Ops.nil ?_
            obtain ⟨z326, hz326, f326, hst326⟩ := St.freeze (τ := tapiRef) (xs := y323) hst325 f324 hn324
            replace f3 := f3.mono hz326; replace f4 := f4.mono hz326; replace f1 := f1.mono hz326
            replace hy302_0 := hy302_0.trans hz326
            replace hy302_1 := hy302_1.trans hz326
            replace hz302 := hz302.trans hz326
            have hst327 : Ht w0 (frz z326 :: (blk g8 [.slice A301 l301.length c301, vi x22] 27) :: (blk g7 [.slice A3 p1.Add.length c3, .slice A4 p1.Drop.length c4, vi p1.Floor] 54) :: (blk g6 [.slice A1 p0.Refs.length c1, vi p0.Floor] 27) :: (blk g20 [.slice A301 l301.length c301, vi x22] 27) :: X) _ := hst326
            rw [← hn324] at hst327
            obtain rfl := Option.some.inj hf
            exact Run.retV [.agg #[.slice A301 y323.length c301, vi x22], vi 0] rfl ⟨⟨_, rfl, run_loadN _ Try.underlying27 rfl sz27 rfl (hst327.cells (i := 1) rfl 0 2)⟩, rfl, trivial⟩ ⟨z326, A301, c301, rfl, hy302_0, f326, (St.forget (St.forget (St.forget (St.forget hst327 4) 3) 2) 1)⟩
def go_law11_PlanStill.b3 (p1 : UInt8) (p2 : UInt8) (y7 : editsSet) (l1058 : List apiRef) (l1061 : List apiRef) (x1062 : Int) : Int → (Int → Option Bool) → Option Bool :=
  fun x1125 nxb1089 => if x1125 ≤ wr (24 + ((p1 % 9).toNat : Int)) then ((go_plan_Of (⟨l1058, y7.Floor⟩ : editsSet) (wr (24 + ((p1 % 9).toNat : Int))) x1125).bind fun y1127 => (go_plan_Of (⟨l1061, x1062⟩ : editsSet) (wr (24 + ((p1 % 9).toNat : Int))) x1125).bind fun y1134 => if y1127.2 = 0 then (if Int.tmod (p2.toNat : Int) (wr ((wr (24 + ((p1 % 9).toNat : Int))) + 1)) ≤ x1125 then (if y1134.2 = 0 then (if x1125 < Int.tmod (p2.toNat : Int) (wr ((wr (24 + ((p1 % 9).toNat : Int))) + 1)) then (if y1134.2 = 9 then (nxb1089 (wr (x1125 + 1))) else (some false)) else (nxb1089 (wr (x1125 + 1)))) else (some false)) else (if x1125 < Int.tmod (p2.toNat : Int) (wr ((wr (24 + ((p1 % 9).toNat : Int))) + 1)) then (if y1134.2 = 9 then (nxb1089 (wr (x1125 + 1))) else (some false)) else (nxb1089 (wr (x1125 + 1))))) else (some false)) else (some true)
def go_law11_PlanStill.j1 (p1 : UInt8) (p2 : UInt8) (y7 : editsSet) (l1058 : List apiRef) (x1060 : Int) (l1061 : List apiRef) (x1062 : Int) : Option Bool :=
  if x1060 = 0 then (loopF (go_law11_PlanStill.b3 p1 p2 y7 l1058 l1061 x1062) fuel 0) else (some false)
def go_law11_PlanStill.b2 (p1 : UInt8) (p2 : UInt8) (y7 : editsSet) : (List apiRef × Int) → (List apiRef × Int → Option Bool) → Option Bool :=
  fun (l1021, x1022) nxb778 => if x1022 < 4 then ((apB 40 l1021 ([(⟨[112, toU8 (wr (48 + x1022))], 2, wr (8 * x1022), wr ((wr (8 * x1022)) + 8)⟩ : apiRef)])).bind fun l1026 => nxb778 (l1026, wr (x1022 + 1))) else ((nzI (wr ((wr (24 + ((p1 % 9).toNat : Int))) + 1))).bind fun _ => (go_plan_Unneeded (⟨l1021, y7.Floor⟩ : editsSet) (Int.tmod (p2.toNat : Int) (wr ((wr (24 + ((p1 % 9).toNat : Int))) + 1)))).bind fun y1064 => (go_edits_Do (⟨l1021, y7.Floor⟩ : editsSet) (⟨[], y1064, Int.tmod (p2.toNat : Int) (wr ((wr (24 + ((p1 % 9).toNat : Int))) + 1))⟩ : editsEdit)).bind fun y1067 => go_law11_PlanStill.j1 p1 p2 y7 l1021 y1067.2 y1067.1.Refs y1067.1.Floor)
def go_law11_PlanStill.b1 (i12 : Nat) (a12 : apiRef) : (List apiRef) → (List apiRef → Option Bool) → Option Bool :=
  fun l765 nxb12 => if a12.Kind = 2 then (nxb12 l765) else ((apB 40 l765 [a12]).bind fun l777 => nxb12 l777)
def go_law11_PlanStill (p0 : List law11Ref) (p1 : UInt8) (p2 : UInt8) (p3 : UInt8) : Option Bool :=
  (go_law11_awake).bind fun y5 => if y5 then ((go_law11_Set p0 0).bind fun y7 => forL (go_law11_PlanStill.b1) (fun l765 => loopF (go_law11_PlanStill.b2 p1 p2 y7) fuel (l765, 0)) 0 y7.Refs []) else (some false)
set_option maxRecDepth 100000 in
set_option maxHeartbeats 4000000 in
theorem go_law11_PlanStill.walk {w0 w : World} {X : List Res} {z0 : Zp} {p0 : List law11Ref} {A1 : Option Addr} {c1 : Nat} {p1 : UInt8} {p2 : UInt8} {p3 : UInt8} {r : Bool} (hst : Ht w0 (frz z0 :: X) w) (f1 : Sl tlaw11Ref z0 A1 c1 p0) (hf : go_law11_PlanStill p0 p1 p2 p3 = some r) :
    Calls Try.prog 9 #[.slice A1 p0.length c1, vu8 p1, vu8 p2, vu8 p3] w fun e w' => ∃ (z' : Zp), e = .returned (vb r) ∧ Le z0 z' ∧ Ht w0 (frz z' :: X) w' := by
  refine calls_np Try.func9 rfl rfl ?_
  have hle0 := Le.refl z0
  unfold go_law11_PlanStill at hf
  refine Run.seq ?_
  refine Run.region ?_
  refine Ops.ex (Ex.assign rfl) rfl rfl rfl ?_
  refine Ops.nil ?_
  refine Run.seq ?_
  refine Run.seq ?_
  refine Run.region ?_
  obtain ⟨y5, hy5, hf⟩ := bnd hf
  refine Ops.call rfl rfl Try.func10 (by kernel_rfl) (by kernel_rfl) rfl (go_law11_awake.walk (hst := hst) (hf := hy5)) ?_
  rintro _ w5 ⟨z5, rfl, hz5, hst5⟩
  refine ⟨_, rfl, ?_⟩
  replace f1 := f1.mono hz5
  replace hle0 := hle0.trans hz5
  refine Ops.ex (Ex.not rfl) rfl rfl rfl ?_
  refine Ops.nil ?_
  refine Run.cond rfl (fun hc => ?_) (fun hc => ?_)
  · replace hf := ifFb (bn_T hc) hf
    refine Run.seq ?_
    refine Run.region ?_
    refine Ops.ex (Ex.assign rfl) rfl rfl rfl ?_
    refine Ops.nil ?_
    obtain rfl := Option.some.inj hf
    exact Run.retV [vb false] rfl ⟨rfl, trivial⟩ ⟨z5, rfl, hle0, hst5⟩
  · replace hf := ifTb (bn_F hc) hf
    refine Run.skip ?_
    refine Run.seq ?_
    refine Run.region ?_
    refine Ops.ex (Ex.move rfl) rfl rfl rfl ?_
    obtain ⟨y7, hy7, hf⟩ := bnd hf
    refine Ops.call rfl rfl Try.func11 (by kernel_rfl) (by kernel_rfl) rfl (go_law11_Set.walk (p0 := p0) (p1 := 0) (hst := hst5) (f1 := f1) (hf := hy7)) ?_
    rintro _ w7 ⟨z7, A8, c8, rfl, hz7, f8, hst7⟩
    refine ⟨_, rfl, ?_⟩
    replace f1 := f1.mono hz7
    replace hle0 := hle0.trans hz7
    refine Ops.allocF [.slice none 0 0, vi 0] hst7 zr27 rfl rfl (fun g10 w10 hst10 => ?_)
    refine Ops.store 1 [.slice A8 y7.Refs.length c8, vi y7.Floor] hst10 rfl rfl rfl rfl sz27 rfl (by simp [Value.oneCell']) (by simp) (fun w11 hst11 => ?_)
    refine Ops.nil ?_
    refine Run.seq ?_
    refine Run.region ?_
    refine Ops.ex (Ex.assign rfl) rfl rfl rfl ?_
    refine Ops.nil ?_
    refine Run.seq ?_
    refine Run.seq ?_
    refine Run.region ?_
    refine Ops.ex (Ex.fieldAddr rfl Try.underlying27 rfl sz25) rfl rfl rfl ?_
    refine Ops.load rfl Try.underlying25 rfl (hst11.cell (i := 1) rfl rfl) rfl ?_
    refine Ops.ex (Ex.len' rfl rfl rfl Try.underlying25) rfl rfl rfl ?_
    refine Ops.ex (Ex.move rfl) rfl rfl rfl ?_
    refine Ops.nil ?_
    refine Run.block ?_
    have hc12 := f8.cap
    have hm13 := Le.refl z7
    have hst766 := hst11.row0 37 4
    refine Run.sub (e' := [(1, vu8 p1), (2, vu8 p2), (9, .pointer (some ⟨g10, 0, none⟩)), (10, .slice none 0 0), (28, .slice A8 y7.Refs.length c8), (29, vi (y7.Refs.length : Int)), (30, vi ((0 : Nat) : Int))]) (subB_spec ⟨rfl, rfl, rfl, rfl, rfl, rfl, rfl, trivial⟩) ?_
    refine Run.loop (fun mb12 => (fun e' w' => ∃ (i12 : Nat) (l765 : List apiRef) (A765 : Option Addr) (c765 : Nat) (d765 : List Value) (z764 : Zp), mb12 = y7.Refs.length - i12 ∧ i12 ≤ y7.Refs.length ∧ forL (go_law11_PlanStill.b1) (fun l765 => loopF (go_law11_PlanStill.b2 p1 p2 y7) fuel (l765, 0)) i12 (y7.Refs.drop i12) l765 = some r ∧ e' = [(1, vu8 p1), (2, vu8 p2), (9, .pointer (some ⟨g10, 0, none⟩)), (10, .slice A765 l765.length c765), (28, .slice A8 y7.Refs.length c8), (29, vi (y7.Refs.length : Int)), (30, vi (i12 : Int))] ∧ Le z7 z764 ∧ Le z0 z764 ∧ Cs tapiRef z764 d765 l765 ∧ Ht w0 (frz z764 :: (orow 37 4 (.slice A765 l765.length c765) l765.length d765) :: (blk g10 [.slice A8 y7.Refs.length c8, vi y7.Floor] 27) :: X) w')) y7.Refs.length ⟨0, [], none, 0, [], z7, rfl, Nat.zero_le _, hf, rfl, hm13, hle0, (Cs.nil _ _), hst766⟩ ?_
    rintro _ e' w768 ⟨i12, l765, A765, c765, d765, z764, rfl, hi12, hf, rfl, hz768, hy768_0, f765, hst768⟩
    replace f8 := f8.mono hz768
    refine Run.seq ?_
    refine Run.region ?_
    refine Ops.ex (Ex.lss rfl rfl) rfl rfl rfl ?_
    refine Ops.nil ?_
    refine Run.seq ?_
    refine Run.cond rfl (fun hc => ?_) (fun hc => ?_)
    · have hl12 := lt_of_dec hc
      obtain ⟨a12, nxb12, ha12, hnxb12, hf⟩ := forL_in hf hl12
      unfold go_law11_PlanStill.b1 at hf
      try dsimp only at hf
      refine Run.skip ?_
      refine Run.seq ?_
      refine Run.block ?_
      refine Run.seq ?_
      refine Run.region ?_
      obtain ⟨g773, p773, o773, cs773, hA773, ho773, hr773, f773⟩ := SlH.elem f8.toH (atI_nat ha12)
      obtain rfl := hr773
      refine Ops.ex (Ex.ixA hA773 ho773 (atI_nat ha12) rfl rfl rfl Try.underlying25 sz37) rfl rfl rfl ?_
      refine Ops.loadAgg [vs a12.Name, vi a12.Kind, vi a12.From, vi a12.To] rfl Try.underlying37 rfl sz37 rfl (cells_of_zc rfl (f773.mono hst768.le)) rfl ?_
      refine Ops.allocF [vs [], vi 0, vi 0, vi 0] hst768 zr37 rfl rfl (fun g774 w774 hst774 => ?_)
      refine Ops.store 1 [vs a12.Name, vi a12.Kind, vi a12.From, vi a12.To] hst774 rfl rfl rfl rfl sz37 rfl (by simp [Value.oneCell']) (by simp) (fun w775 hst775 => ?_)
      refine Ops.nil ?_
      refine Run.seq ?_
      refine Run.region ?_
      refine Ops.ex (Ex.fieldAddr rfl Try.underlying37 rfl sz35) rfl rfl rfl ?_
      refine Ops.load rfl Try.underlying35 rfl (hst775.cell (i := 1) rfl rfl) rfl ?_
      refine Ops.ex (Ex.neqI rfl rfl) rfl rfl rfl ?_
      refine Ops.nil ?_
      refine Run.cond rfl (fun hc => ?_) (fun hc => ?_)
      · replace hf := ifF (neq_T hc) hf
        refine Run.region ?_
        refine Ops.ex (Ex.move rfl) rfl rfl rfl ?_
        refine Ops.loadAgg _ rfl Try.underlying37 rfl sz37 rfl (hst775.cells (i := 1) rfl 0 4) rfl ?_
        refine Ops.sliceF [vs a12.Name, vi a12.Kind, vi a12.From, vi a12.To] hst775 rfl Try.underlying25 sz37 zr37 rfl rfl (by kernel_rfl) rfl (by simp [Value.oneCell']) rfl (fun A776 w776 hst776 => ?_)
        have f776 : Cs tapiRef z764 [vs a12.Name, vi a12.Kind, vi a12.From, vi a12.To] [a12] := (Cs.cons (c := [vs a12.Name, vi a12.Kind, vi a12.From, vi a12.To]) rfl (Cs.nil _ _))
        obtain ⟨l777, hy777, hf⟩ := bnd hf
        refine Ops.app 3 hst776 rfl f765 rfl (own_slh f776 rfl (hst776.get (i := 1) rfl)) rfl hy777 rfl rfl rfl rfl Try.underlying25 inf37 rfl (by decide) (by decide) rfl (fun A777 c777 d777 w777 f777 hst777 => ?_)
        refine Ops.ex (Ex.assign rfl) rfl rfl rfl ?_
        refine Ops.nil ?_
        refine Run.endBlk ?_
        refine Run.region ?_
        refine Ops.ex (Ex.add rfl rfl) rfl rfl rfl ?_
        refine Ops.ex (Ex.move rfl) rfl rfl rfl ?_
        refine Ops.nil ?_
        refine Run.re 30 rfl (congrArg vi (wr_succ' hl12 hc12)) ?_
        exact Run.sub (by exact subB_spec ⟨rfl, rfl, rfl, rfl, rfl, rfl, rfl, trivial⟩) (Run.stop ⟨y7.Refs.length - (i12 + 1), by omega, i12 + 1, l777, A777, c777, d777, z764, rfl, by omega, (hnxb12 _).symm.trans hf, rfl, hz768, hy768_0, f777, (St.forget (St.forget hst777 2) 1)⟩)
      · replace hf := ifT (neq_F hc) hf
        refine Run.skip ?_
        refine Run.endBlk ?_
        refine Run.region ?_
        refine Ops.ex (Ex.add rfl rfl) rfl rfl rfl ?_
        refine Ops.ex (Ex.move rfl) rfl rfl rfl ?_
        refine Ops.nil ?_
        refine Run.re 30 rfl (congrArg vi (wr_succ' hl12 hc12)) ?_
        exact Run.sub (by exact subB_spec ⟨rfl, rfl, rfl, rfl, rfl, rfl, rfl, trivial⟩) (Run.stop ⟨y7.Refs.length - (i12 + 1), by omega, i12 + 1, l765, A765, c765, d765, z764, rfl, by omega, (hnxb12 _).symm.trans hf, rfl, hz768, hy768_0, f765, (St.forget hst775 1)⟩)
    · replace hf := forL_out hf (nlt_of_dec hc)
      try dsimp only at hf
      refine Run.exit _ rfl ?_
      refine Run.seq ?_
      refine Run.seq ?_
      refine Run.region ?_
      refine Ops.ex (Ex.assign rfl) rfl rfl rfl ?_
      refine Ops.nil ?_
      refine Run.block ?_
      have hm779 := Le.refl z764
      refine Run.sub (e' := [(1, vu8 p1), (2, vu8 p2), (9, .pointer (some ⟨g10, 0, none⟩)), (10, .slice A765 l765.length c765), (13, vi 0)]) (subB_spec ⟨rfl, rfl, rfl, rfl, rfl, trivial⟩) ?_
      refine Run.loop (fun mb778 => (fun e' w' => ∃ (l1021 : List apiRef) (x1022 : Int) (A1021 : Option Addr) (c1021 : Nat) (d1021 : List Value) (z1020 : Zp), loopF (go_law11_PlanStill.b2 p1 p2 y7) mb778 (l1021, x1022) = some r ∧ e' = [(1, vu8 p1), (2, vu8 p2), (9, .pointer (some ⟨g10, 0, none⟩)), (10, .slice A1021 l1021.length c1021), (13, vi x1022)] ∧ Le z764 z1020 ∧ Le z0 z1020 ∧ Le z7 z1020 ∧ Cs tapiRef z1020 d1021 l1021 ∧ Ht w0 (frz z1020 :: (orow 37 4 (.slice A1021 l1021.length c1021) l1021.length d1021) :: (blk g10 [.slice A8 y7.Refs.length c8, vi y7.Floor] 27) :: X) w')) fuel ⟨l765, 0, A765, c765, d765, z764, hf, rfl, hm779, hy768_0, hz768, f765, hst768⟩ ?_
      rintro mb778 e' w1023 ⟨l1021, x1022, A1021, c1021, d1021, z1020, hf, rfl, hz1023, hy1023_0, hy1023_1, f1021, hst1023⟩
      replace f8 := f8.mono hz1023
      obtain ⟨mb778', nxb778, rfl, hnxb778, hf⟩ := loopF_in hf
      unfold go_law11_PlanStill.b2 at hf
      try dsimp only at hf
      refine Run.seq ?_
      refine Run.seq ?_
      refine Run.region ?_
      refine Ops.ex (Ex.move rfl) rfl rfl rfl ?_
      refine Ops.ex (Ex.lss rfl rfl) rfl rfl rfl ?_
      refine Ops.nil ?_
      refine Run.cond rfl (fun hc => ?_) (fun hc => ?_)
      · replace hf := ifT (dec_T hc) hf
        refine Run.skip ?_
        refine Run.seq ?_
        refine Run.block ?_
        refine Run.region ?_
        refine Ops.ex (Ex.move rfl) rfl rfl rfl ?_
        refine Ops.ex (Ex.move rfl) rfl rfl rfl ?_
        refine Ops.ex (Ex.add rfl rfl) rfl rfl rfl ?_
        refine Ops.ex (Ex.cto8 rfl Try.underlying3 Try.underlying5) rfl rfl rfl ?_
        refine Ops.sliceF [vu8 112, vu8 (toU8 (wr (48 + x1022)))] hst1023 rfl Try.underlying50 sz5 zr5 rfl rfl (by kernel_rfl) rfl (by simp [Value.oneCell']) rfl (fun A1024 w1024 hst1024 => ?_)
        have f1024 : Cs tU8 z1020 [vu8 112, vu8 (toU8 (wr (48 + x1022)))] [112, toU8 (wr (48 + x1022))] := (Cs.cons (c := [vu8 112]) rfl (Cs.cons (c := [vu8 (toU8 (wr (48 + x1022)))]) rfl (Cs.nil _ _)))
        refine Ops.str8 (own_slh f1024 rfl (hst1024.get (i := 1) rfl)) rfl Try.underlying50 Try.underlying5 Try.underlying9 rfl (?_)
        refine Ops.ex (Ex.move rfl) rfl rfl rfl ?_
        refine Ops.ex (Ex.mul rfl rfl) rfl rfl rfl ?_
        refine Ops.ex (Ex.move rfl) rfl rfl rfl ?_
        refine Ops.ex (Ex.mul rfl rfl) rfl rfl rfl ?_
        refine Ops.ex (Ex.add rfl rfl) rfl rfl rfl ?_
        refine Ops.ex (Ex.build [vs [112, toU8 (wr (48 + x1022))], vi 2, vi (wr (8 * x1022)), vi (wr ((wr (8 * x1022)) + 8))] rfl Try.underlying37 zr37 (pl37 Try.underlying37) (by kernel_rfl)) rfl rfl rfl ?_
        refine Ops.sliceF [vs [112, toU8 (wr (48 + x1022))], vi 2, vi (wr (8 * x1022)), vi (wr ((wr (8 * x1022)) + 8))] hst1024 rfl Try.underlying25 sz37 zr37 rfl rfl (by kernel_rfl) rfl (by simp [Value.oneCell']) rfl (fun A1025 w1025 hst1025 => ?_)
        have f1025 : Cs tapiRef z1020 [vs [112, toU8 (wr (48 + x1022))], vi 2, vi (wr (8 * x1022)), vi (wr ((wr (8 * x1022)) + 8))] [(⟨[112, toU8 (wr (48 + x1022))], 2, wr (8 * x1022), wr ((wr (8 * x1022)) + 8)⟩ : apiRef)] := (Cs.cons (c := [vs [112, toU8 (wr (48 + x1022))], vi 2, vi (wr (8 * x1022)), vi (wr ((wr (8 * x1022)) + 8))]) rfl (Cs.nil _ _))
        obtain ⟨l1026, hy1026, hf⟩ := bnd hf
        refine Ops.app 3 hst1025 rfl f1021 rfl (own_slh f1025 rfl (hst1025.get (i := 1) rfl)) rfl hy1026 rfl rfl rfl rfl Try.underlying25 inf37 rfl (by decide) (by decide) rfl (fun A1026 c1026 d1026 w1026 f1026 hst1026 => ?_)
        refine Ops.ex (Ex.assign rfl) rfl rfl rfl ?_
        refine Ops.nil ?_
        refine Run.endBlk ?_
        refine Run.region ?_
        refine Ops.ex (Ex.move rfl) rfl rfl rfl ?_
        refine Ops.ex (Ex.add rfl rfl) rfl rfl rfl ?_
        refine Ops.ex (Ex.assign rfl) rfl rfl rfl ?_
        refine Ops.nil ?_
        exact Run.sub (by exact subB_spec ⟨rfl, rfl, rfl, rfl, rfl, trivial⟩) (Run.stop ⟨mb778', Nat.lt_succ_self _, l1026, wr (x1022 + 1), A1026, c1026, d1026, z1020, (hnxb778 _).symm.trans hf, rfl, hz1023, hy1023_0, hy1023_1, f1026, (St.forget (St.forget hst1026 2) 1)⟩)
      · replace hf := ifF (dec_F hc) hf
        refine Run.exit _ rfl ?_
        refine Run.seq ?_
        refine Run.region ?_
        refine Ops.ex (Ex.move rfl) rfl rfl rfl ?_
        refine Ops.ex (Ex.fieldAddr rfl Try.underlying27 rfl sz25) rfl rfl rfl ?_
        refine Ops.store 2 [.slice A1021 l1021.length c1021] hst1023 rfl rfl rfl rfl sz25 rfl (by simp [Value.oneCell']) (by simp) (fun w1027 hst1027 => ?_)
        refine Ops.nil ?_
        refine Run.seq ?_
        refine Run.region ?_
        refine Ops.ex (Ex.move rfl) rfl rfl rfl ?_
        refine Ops.ex (Ex.rem8 (a := p1) (b := 9) rfl rfl (by decide)) rfl rfl rfl ?_
        refine Ops.ex (Ex.cu8 rfl Try.underlying5 Try.underlying3) rfl rfl rfl ?_
        refine Ops.ex (Ex.add rfl rfl) rfl rfl rfl ?_
        refine Ops.ex (Ex.assign rfl) rfl rfl rfl ?_
        refine Ops.nil ?_
        refine Run.seq ?_
        refine Run.region ?_
        refine Ops.ex (Ex.move rfl) rfl rfl rfl ?_
        refine Ops.ex (Ex.cu8 rfl Try.underlying5 Try.underlying3) rfl rfl rfl ?_
        refine Ops.ex (Ex.move rfl) rfl rfl rfl ?_
        refine Ops.ex (Ex.add rfl rfl) rfl rfl rfl ?_
        obtain ⟨_, hy1028, hf⟩ := bnd hf
        refine Ops.ex (Ex.rem rfl rfl (nzI_some hy1028)) rfl rfl rfl ?_
        refine Ops.ex (Ex.assign rfl) rfl rfl rfl ?_
        refine Ops.nil ?_
        refine Run.seq ?_
        have hm1056 := Le.refl z1020
        apply Run.jn (fun e' w' => ∃ (l1058 : List apiRef) (x1060 : Int) (l1061 : List apiRef) (x1062 : Int) (A1058 : Option Addr) (c1058 : Nat) (g1059 : Nat) (A1061 : Option Addr) (c1061 : Nat) (z1057 : Zp), go_law11_PlanStill.j1 p1 p2 y7 l1058 x1060 l1061 x1062 = some r ∧ e' = [(9, .pointer (some ⟨g10, 0, none⟩)), (14, vi (wr (24 + ((p1 % 9).toNat : Int)))), (15, vi (Int.tmod (p2.toNat : Int) (wr ((wr (24 + ((p1 % 9).toNat : Int))) + 1)))), (16, .pointer (some ⟨g1059, 0, none⟩)), (17, vi x1060)] ∧ Le z1020 z1057 ∧ Le z0 z1057 ∧ Le z7 z1057 ∧ Le z764 z1057 ∧ Sl tapiRef z1057 A1058 c1058 l1058 ∧ Sl tapiRef z1057 A1061 c1061 l1061 ∧ Ht w0 (frz z1057 :: (blk g10 [.slice A1058 l1058.length c1058, vi y7.Floor] 27) :: (blk g1059 [.slice A1061 l1061.length c1061, vi x1062] 27) :: X) w')
        · intro hj1029
          refine Run.drawH [([], fun w => ∃ ζ Y, Le z1020 ζ ∧ Ht w0 (frz ζ :: (blk g10 [.slice A1021 l1021.length c1021, vi y7.Floor] 27) :: Y) w), ([3, 6, 10, 11], fun w => ∃ ζ Y, Le z1020 ζ ∧ Ht w0 (frz ζ :: (orow 37 4 (.slice A1021 l1021.length c1021) l1021.length d1021) :: Y) w)] (by kernel_rfl) hst1027 (fun w1063 hst1063 => ?_)
          have hS0 := (⟨_, _, (Le.refl _), (St.up (St.up hst1063 2 rfl) 1 rfl)⟩ : (fun w => ∃ ζ Y, Le z1020 ζ ∧ Ht w0 (frz ζ :: (blk g10 [.slice A1021 l1021.length c1021, vi y7.Floor] 27) :: Y) w) _)
          have hS1 := (⟨_, _, (Le.refl _), (St.up (St.up hst1063 1 rfl) 1 rfl)⟩ : (fun w => ∃ ζ Y, Le z1020 ζ ∧ Ht w0 (frz ζ :: (orow 37 4 (.slice A1021 l1021.length c1021) l1021.length d1021) :: Y) w) _)
          refine Any.take 0 0 rfl rfl rfl rfl rfl (by kernel_rfl) (fun _ _ _ _ _ h => h) (ExS.loadAgg [.slice A1021 l1021.length c1021, vi y7.Floor] rfl Try.underlying27 rfl sz27 rfl (fun w hS => by obtain ⟨_, _, _, hs⟩ := hS; exact hs.cells (i := 1) rfl 0 2)) hS0 ?_
          refine Any.take 0 1 rfl rfl rfl rfl rfl (by kernel_rfl) (fun _ _ _ _ _ h => h) (ExS.loadAgg [.slice A1021 l1021.length c1021, vi y7.Floor] rfl Try.underlying27 rfl sz27 rfl (fun w hS => by obtain ⟨_, _, _, hs⟩ := hS; exact hs.cells (i := 1) rfl 0 2)) hS0 ?_
          refine Any.takeE 2 rfl rfl rfl rfl (by kernel_rfl) (fun _ _ _ _ _ h => h) ((Ex.move rfl).s) ?_
          refine Any.takeE 4 rfl rfl rfl rfl (by kernel_rfl) (fun _ _ _ _ _ h => h) ((Ex.move rfl).s) ?_
          refine Any.all [3, 10] (by kernel_rfl) rfl (fun i hi => ?_)
          simp only [List.mem_cons, List.not_mem_nil, or_false] at hi
          rcases hi with rfl | rfl
          · skip
            obtain ⟨z1065, hz1065, f1065, hst1065⟩ := St.freeze (τ := tapiRef) (xs := l1021) hst1063 f1021 rfl
            replace hy1023_0 := hy1023_0.trans hz1065
            replace hy1023_1 := hy1023_1.trans hz1065
            replace hz1023 := hz1023.trans hz1065
            replace hm1056 := hm1056.trans hz1065
            obtain ⟨y1064, hy1064, hf⟩ := bnd hf
            refine ⟨_, rfl, rfl, One.of_ops rfl ?_⟩
            refine Ops.call rfl rfl Try.func17 (by kernel_rfl) (by kernel_rfl) rfl (go_plan_Unneeded.walk (p0 := (⟨l1021, y7.Floor⟩ : editsSet)) (p1 := Int.tmod (p2.toNat : Int) (wr ((wr (24 + ((p1 % 9).toNat : Int))) + 1))) (hst := hst1065) (f1 := f1065) (hf := hy1064)) ?_
            rintro _ w1064 ⟨z1064, A1066, c1066, rfl, hz1064, f1066, hst1064⟩
            refine ⟨_, rfl, Ops.stop ?_⟩
            replace f1065 := f1065.mono hz1064
            replace hy1023_0 := hy1023_0.trans hz1064
            replace hy1023_1 := hy1023_1.trans hz1064
            replace hz1023 := hz1023.trans hz1064
            replace hm1056 := hm1056.trans hz1064
            have hS0 := (⟨_, _, hm1056, (St.up (St.up hst1064 1 rfl) 1 rfl)⟩ : (fun w => ∃ ζ Y, Le z1020 ζ ∧ Ht w0 (frz ζ :: (blk g10 [.slice A1021 l1021.length c1021, vi y7.Floor] 27) :: Y) w) _)
            refine ⟨⟨.inr (fun _ => hS0), .inl (by decide), trivial⟩, ?_⟩
            refine Any.takeE 5 rfl rfl rfl rfl (by kernel_rfl) (fun _ _ _ _ _ h => h) ((Ex.build [.slice none 0 0, .slice A1066 y1064.length c1066, vi (Int.tmod (p2.toNat : Int) (wr ((wr (24 + ((p1 % 9).toNat : Int))) + 1)))] rfl Try.underlying54 zr54 (pl54 Try.underlying54) (by kernel_rfl)).s) ?_
            refine Any.all [6, 10] (by kernel_rfl) rfl (fun i hi => ?_)
            simp only [List.mem_cons, List.not_mem_nil, or_false] at hi
            rcases hi with rfl | rfl
            · skip
              obtain ⟨y1067, hy1067, hf⟩ := bnd hf
              refine ⟨_, rfl, rfl, One.of_ops rfl ?_⟩
              refine Ops.call rfl rfl Try.func18 (by kernel_rfl) (by kernel_rfl) rfl (go_edits_Do.walk (p0 := (⟨l1021, y7.Floor⟩ : editsSet)) (p1 := (⟨[], y1064, Int.tmod (p2.toNat : Int) (wr ((wr (24 + ((p1 % 9).toNat : Int))) + 1))⟩ : editsEdit)) (hst := hst1064) (f1 := f1065) (f3 := Sl.nil _ _) (f4 := f1066) (hf := hy1067)) ?_
              rintro _ w1067 ⟨z1067, A1068, c1068, rfl, hz1067, f1068, hst1067⟩
              refine ⟨_, rfl, Ops.stop ?_⟩
              replace f1065 := f1065.mono hz1067; replace f1066 := f1066.mono hz1067
              replace hy1023_0 := hy1023_0.trans hz1067
              replace hy1023_1 := hy1023_1.trans hz1067
              replace hz1023 := hz1023.trans hz1067
              replace hm1056 := hm1056.trans hz1067
              have hS0 := (⟨_, _, hm1056, (St.up (St.up hst1067 1 rfl) 1 rfl)⟩ : (fun w => ∃ ζ Y, Le z1020 ζ ∧ Ht w0 (frz ζ :: (blk g10 [.slice A1021 l1021.length c1021, vi y7.Floor] 27) :: Y) w) _)
              refine ⟨⟨.inr (fun _ => hS0), .inl (by decide), trivial⟩, ?_⟩
              refine Any.takeE 7 rfl rfl rfl rfl (by kernel_rfl) (fun _ _ _ _ _ h => h) ((Ex.move rfl).s) ?_
              refine Any.takeE 8 rfl rfl rfl rfl (by kernel_rfl) (fun _ _ _ _ _ h => h) ((Ex.extract rfl rfl).s) ?_
              refine Any.takeE 9 rfl rfl rfl rfl (by kernel_rfl) (fun _ _ _ _ _ h => h) ((Ex.extract rfl rfl).s) ?_
              refine Any.one 10 (by kernel_rfl) rfl rfl (One.of_ops rfl ?_)
              refine Ops.allocF [.slice none 0 0, vi 0] hst1067 zr27 rfl rfl (fun g1071 w1071 hst1071 => Ops.stop ?_)
              have hS0 := (⟨_, _, hm1056, (St.up (St.up hst1071 2 rfl) 1 rfl)⟩ : (fun w => ∃ ζ Y, Le z1020 ζ ∧ Ht w0 (frz ζ :: (blk g10 [.slice A1021 l1021.length c1021, vi y7.Floor] 27) :: Y) w) _)
              refine ⟨⟨.inr (fun _ => hS0), .inl (by decide), trivial⟩, ?_⟩
              refine Any.one 11 (by kernel_rfl) rfl rfl (One.of_ops rfl ?_)
              refine Ops.store 1 [.slice A1068 y1067.1.Refs.length c1068, vi y1067.1.Floor] hst1071 rfl rfl rfl rfl sz27 rfl (by simp [Value.oneCell']) (by simp) (fun w1072 hst1072 => Ops.stop ?_)
              have hS0 := (⟨_, _, hm1056, (St.up (St.up hst1072 2 rfl) 1 rfl)⟩ : (fun w => ∃ ζ Y, Le z1020 ζ ∧ Ht w0 (frz ζ :: (blk g10 [.slice A1021 l1021.length c1021, vi y7.Floor] 27) :: Y) w) _)
              refine ⟨⟨.inr (fun _ => hS0), .inl (by decide), trivial⟩, ?_⟩
              refine Any.takeE 12 rfl rfl rfl rfl (by kernel_rfl) (fun _ _ _ _ _ h => h) ((Ex.assign rfl).s) ?_
              refine Any.done (by kernel_rfl) ?_
              exact Run.sub (by exact subB_spec ⟨rfl, rfl, rfl, rfl, rfl, trivial⟩) (hj1029 _ _ ⟨l1021, y1067.2, y1067.1.Refs, y1067.1.Floor, A1021, c1021, g1071, A1068, c1068, z1067, hf, rfl, hm1056, hy1023_0, hy1023_1, hz1023, f1065, f1068, (St.up (St.up (St.up hst1072 1 rfl) 2 rfl) 2 rfl)⟩)
            · skip
              refine ⟨_, rfl, rfl, One.of_ops rfl ?_⟩
              refine Ops.allocF [.slice none 0 0, vi 0] hst1064 zr27 rfl rfl (fun g1073 w1073 hst1073 => Ops.stop ?_)
              have hS0 := (⟨_, _, hm1056, (St.up (St.up hst1073 2 rfl) 1 rfl)⟩ : (fun w => ∃ ζ Y, Le z1020 ζ ∧ Ht w0 (frz ζ :: (blk g10 [.slice A1021 l1021.length c1021, vi y7.Floor] 27) :: Y) w) _)
              refine ⟨⟨.inr (fun _ => hS0), .inl (by decide), trivial⟩, ?_⟩
              obtain ⟨y1074, hy1074, hf⟩ := bnd hf
              refine Any.one 6 (by kernel_rfl) rfl rfl (One.of_ops rfl ?_)
              refine Ops.call rfl rfl Try.func18 (by kernel_rfl) (by kernel_rfl) rfl (go_edits_Do.walk (p0 := (⟨l1021, y7.Floor⟩ : editsSet)) (p1 := (⟨[], y1064, Int.tmod (p2.toNat : Int) (wr ((wr (24 + ((p1 % 9).toNat : Int))) + 1))⟩ : editsEdit)) (hst := hst1073) (f1 := f1065) (f3 := Sl.nil _ _) (f4 := f1066) (hf := hy1074)) ?_
              rintro _ w1074 ⟨z1074, A1075, c1075, rfl, hz1074, f1075, hst1074⟩
              refine ⟨_, rfl, Ops.stop ?_⟩
              replace f1065 := f1065.mono hz1074; replace f1066 := f1066.mono hz1074
              replace hy1023_0 := hy1023_0.trans hz1074
              replace hy1023_1 := hy1023_1.trans hz1074
              replace hz1023 := hz1023.trans hz1074
              replace hm1056 := hm1056.trans hz1074
              have hS0 := (⟨_, _, hm1056, (St.up (St.up hst1074 2 rfl) 1 rfl)⟩ : (fun w => ∃ ζ Y, Le z1020 ζ ∧ Ht w0 (frz ζ :: (blk g10 [.slice A1021 l1021.length c1021, vi y7.Floor] 27) :: Y) w) _)
              refine ⟨⟨.inr (fun _ => hS0), .inl (by decide), trivial⟩, ?_⟩
              refine Any.takeE 7 rfl rfl rfl rfl (by kernel_rfl) (fun _ _ _ _ _ h => h) ((Ex.move rfl).s) ?_
              refine Any.takeE 8 rfl rfl rfl rfl (by kernel_rfl) (fun _ _ _ _ _ h => h) ((Ex.extract rfl rfl).s) ?_
              refine Any.takeE 9 rfl rfl rfl rfl (by kernel_rfl) (fun _ _ _ _ _ h => h) ((Ex.extract rfl rfl).s) ?_
              refine Any.one 11 (by kernel_rfl) rfl rfl (One.of_ops rfl ?_)
              refine Ops.store 1 [.slice A1075 y1074.1.Refs.length c1075, vi y1074.1.Floor] hst1074 rfl rfl rfl rfl sz27 rfl (by simp [Value.oneCell']) (by simp) (fun w1078 hst1078 => Ops.stop ?_)
              have hS0 := (⟨_, _, hm1056, (St.up (St.up hst1078 2 rfl) 1 rfl)⟩ : (fun w => ∃ ζ Y, Le z1020 ζ ∧ Ht w0 (frz ζ :: (blk g10 [.slice A1021 l1021.length c1021, vi y7.Floor] 27) :: Y) w) _)
              refine ⟨⟨.inr (fun _ => hS0), .inl (by decide), trivial⟩, ?_⟩
              refine Any.takeE 12 rfl rfl rfl rfl (by kernel_rfl) (fun _ _ _ _ _ h => h) ((Ex.assign rfl).s) ?_
              refine Any.done (by kernel_rfl) ?_
              exact Run.sub (by exact subB_spec ⟨rfl, rfl, rfl, rfl, rfl, trivial⟩) (hj1029 _ _ ⟨l1021, y1074.2, y1074.1.Refs, y1074.1.Floor, A1021, c1021, g1073, A1075, c1075, z1074, hf, rfl, hm1056, hy1023_0, hy1023_1, hz1023, f1065, f1075, (St.up (St.up (St.up hst1078 1 rfl) 2 rfl) 2 rfl)⟩)
          · skip
            refine ⟨_, rfl, rfl, One.of_ops rfl ?_⟩
            refine Ops.allocF [.slice none 0 0, vi 0] hst1063 zr27 rfl rfl (fun g1079 w1079 hst1079 => Ops.stop ?_)
            have hS0 := (⟨_, _, (Le.refl _), (St.up (St.up hst1079 3 rfl) 1 rfl)⟩ : (fun w => ∃ ζ Y, Le z1020 ζ ∧ Ht w0 (frz ζ :: (blk g10 [.slice A1021 l1021.length c1021, vi y7.Floor] 27) :: Y) w) _)
            refine ⟨⟨.inr (fun _ => hS0), .inl (by decide), trivial⟩, ?_⟩
            obtain ⟨z1081, hz1081, f1081, hst1081⟩ := St.freeze (τ := tapiRef) (xs := l1021) (St.up (St.up (St.up (St.up hst1079 3 rfl) 2 rfl) 3 rfl) 3 rfl) f1021 rfl
            replace hy1023_0 := hy1023_0.trans hz1081
            replace hy1023_1 := hy1023_1.trans hz1081
            replace hz1023 := hz1023.trans hz1081
            replace hm1056 := hm1056.trans hz1081
            obtain ⟨y1080, hy1080, hf⟩ := bnd hf
            refine Any.one 3 (by kernel_rfl) rfl rfl (One.of_ops rfl ?_)
            refine Ops.call rfl rfl Try.func17 (by kernel_rfl) (by kernel_rfl) rfl (go_plan_Unneeded.walk (p0 := (⟨l1021, y7.Floor⟩ : editsSet)) (p1 := Int.tmod (p2.toNat : Int) (wr ((wr (24 + ((p1 % 9).toNat : Int))) + 1))) (hst := hst1081) (f1 := f1081) (hf := hy1080)) ?_
            rintro _ w1080 ⟨z1080, A1082, c1082, rfl, hz1080, f1082, hst1080⟩
            refine ⟨_, rfl, Ops.stop ?_⟩
            replace f1081 := f1081.mono hz1080
            replace hy1023_0 := hy1023_0.trans hz1080
            replace hy1023_1 := hy1023_1.trans hz1080
            replace hz1023 := hz1023.trans hz1080
            replace hm1056 := hm1056.trans hz1080
            have hS0 := (⟨_, _, hm1056, (St.up (St.up hst1080 2 rfl) 1 rfl)⟩ : (fun w => ∃ ζ Y, Le z1020 ζ ∧ Ht w0 (frz ζ :: (blk g10 [.slice A1021 l1021.length c1021, vi y7.Floor] 27) :: Y) w) _)
            refine ⟨⟨.inr (fun _ => hS0), .inl (by decide), trivial⟩, ?_⟩
            refine Any.takeE 5 rfl rfl rfl rfl (by kernel_rfl) (fun _ _ _ _ _ h => h) ((Ex.build [.slice none 0 0, .slice A1082 y1080.length c1082, vi (Int.tmod (p2.toNat : Int) (wr ((wr (24 + ((p1 % 9).toNat : Int))) + 1)))] rfl Try.underlying54 zr54 (pl54 Try.underlying54) (by kernel_rfl)).s) ?_
            obtain ⟨y1083, hy1083, hf⟩ := bnd hf
            refine Any.one 6 (by kernel_rfl) rfl rfl (One.of_ops rfl ?_)
            refine Ops.call rfl rfl Try.func18 (by kernel_rfl) (by kernel_rfl) rfl (go_edits_Do.walk (p0 := (⟨l1021, y7.Floor⟩ : editsSet)) (p1 := (⟨[], y1080, Int.tmod (p2.toNat : Int) (wr ((wr (24 + ((p1 % 9).toNat : Int))) + 1))⟩ : editsEdit)) (hst := hst1080) (f1 := f1081) (f3 := Sl.nil _ _) (f4 := f1082) (hf := hy1083)) ?_
            rintro _ w1083 ⟨z1083, A1084, c1084, rfl, hz1083, f1084, hst1083⟩
            refine ⟨_, rfl, Ops.stop ?_⟩
            replace f1081 := f1081.mono hz1083; replace f1082 := f1082.mono hz1083
            replace hy1023_0 := hy1023_0.trans hz1083
            replace hy1023_1 := hy1023_1.trans hz1083
            replace hz1023 := hz1023.trans hz1083
            replace hm1056 := hm1056.trans hz1083
            have hS0 := (⟨_, _, hm1056, (St.up (St.up hst1083 2 rfl) 1 rfl)⟩ : (fun w => ∃ ζ Y, Le z1020 ζ ∧ Ht w0 (frz ζ :: (blk g10 [.slice A1021 l1021.length c1021, vi y7.Floor] 27) :: Y) w) _)
            refine ⟨⟨.inr (fun _ => hS0), .inl (by decide), trivial⟩, ?_⟩
            refine Any.takeE 7 rfl rfl rfl rfl (by kernel_rfl) (fun _ _ _ _ _ h => h) ((Ex.move rfl).s) ?_
            refine Any.takeE 8 rfl rfl rfl rfl (by kernel_rfl) (fun _ _ _ _ _ h => h) ((Ex.extract rfl rfl).s) ?_
            refine Any.takeE 9 rfl rfl rfl rfl (by kernel_rfl) (fun _ _ _ _ _ h => h) ((Ex.extract rfl rfl).s) ?_
            refine Any.one 11 (by kernel_rfl) rfl rfl (One.of_ops rfl ?_)
            refine Ops.store 1 [.slice A1084 y1083.1.Refs.length c1084, vi y1083.1.Floor] hst1083 rfl rfl rfl rfl sz27 rfl (by simp [Value.oneCell']) (by simp) (fun w1087 hst1087 => Ops.stop ?_)
            have hS0 := (⟨_, _, hm1056, (St.up (St.up hst1087 2 rfl) 1 rfl)⟩ : (fun w => ∃ ζ Y, Le z1020 ζ ∧ Ht w0 (frz ζ :: (blk g10 [.slice A1021 l1021.length c1021, vi y7.Floor] 27) :: Y) w) _)
            refine ⟨⟨.inr (fun _ => hS0), .inl (by decide), trivial⟩, ?_⟩
            refine Any.takeE 12 rfl rfl rfl rfl (by kernel_rfl) (fun _ _ _ _ _ h => h) ((Ex.assign rfl).s) ?_
            refine Any.done (by kernel_rfl) ?_
            exact Run.sub (by exact subB_spec ⟨rfl, rfl, rfl, rfl, rfl, trivial⟩) (hj1029 _ _ ⟨l1021, y1083.2, y1083.1.Refs, y1083.1.Floor, A1021, c1021, g1079, A1084, c1084, z1083, hf, rfl, hm1056, hy1023_0, hy1023_1, hz1023, f1081, f1084, (St.up (St.up (St.up hst1087 1 rfl) 2 rfl) 2 rfl)⟩)
        · rintro e' w1088 ⟨l1058, x1060, l1061, x1062, A1058, c1058, g1059, A1061, c1061, z1057, hf, rfl, hz1088, hy1088_0, hy1088_1, hy1088_2, f1058, f1061, hst1088⟩
          unfold go_law11_PlanStill.j1 at hf
          refine Run.seq ?_
          refine Run.seq ?_
          refine Run.region ?_
          refine Ops.ex (Ex.move rfl) rfl rfl rfl ?_
          refine Ops.ex (Ex.neqI rfl rfl) rfl rfl rfl ?_
          refine Ops.nil ?_
          refine Run.cond rfl (fun hc => ?_) (fun hc => ?_)
          · replace hf := ifF (neq_T hc) hf
            refine Run.seq ?_
            refine Run.region ?_
            refine Ops.ex (Ex.assign rfl) rfl rfl rfl ?_
            refine Ops.nil ?_
            obtain rfl := Option.some.inj hf
            exact Run.retV [vb false] rfl ⟨rfl, trivial⟩ ⟨z1057, rfl, hy1088_0, (St.forget (St.forget hst1088 2) 1)⟩
          · replace hf := ifT (neq_F hc) hf
            refine Run.skip ?_
            refine Run.seq ?_
            refine Run.seq ?_
            refine Run.region ?_
            refine Ops.ex (Ex.assign rfl) rfl rfl rfl ?_
            refine Ops.nil ?_
            refine Run.block ?_
            have hm1090 := Le.refl z1057
            refine Run.sub (e' := [(9, .pointer (some ⟨g10, 0, none⟩)), (14, vi (wr (24 + ((p1 % 9).toNat : Int)))), (15, vi (Int.tmod (p2.toNat : Int) (wr ((wr (24 + ((p1 % 9).toNat : Int))) + 1)))), (16, .pointer (some ⟨g1059, 0, none⟩)), (18, vi 0)]) (subB_spec ⟨rfl, rfl, rfl, rfl, rfl, trivial⟩) ?_
            refine Run.loop (fun mb1089 => (fun e' w' => ∃ (x1125 : Int) (z1124 : Zp), loopF (go_law11_PlanStill.b3 p1 p2 y7 l1058 l1061 x1062) mb1089 x1125 = some r ∧ e' = [(9, .pointer (some ⟨g10, 0, none⟩)), (14, vi (wr (24 + ((p1 % 9).toNat : Int)))), (15, vi (Int.tmod (p2.toNat : Int) (wr ((wr (24 + ((p1 % 9).toNat : Int))) + 1)))), (16, .pointer (some ⟨g1059, 0, none⟩)), (18, vi x1125)] ∧ Le z1057 z1124 ∧ Le z0 z1124 ∧ Le z7 z1124 ∧ Le z764 z1124 ∧ Le z1020 z1124 ∧ Ht w0 (frz z1124 :: (blk g10 [.slice A1058 l1058.length c1058, vi y7.Floor] 27) :: (blk g1059 [.slice A1061 l1061.length c1061, vi x1062] 27) :: X) w')) fuel ⟨0, z1057, hf, rfl, hm1090, hy1088_0, hy1088_1, hy1088_2, hz1088, hst1088⟩ ?_
            rintro mb1089 e' w1126 ⟨x1125, z1124, hf, rfl, hz1126, hy1126_0, hy1126_1, hy1126_2, hy1126_3, hst1126⟩
            replace f1058 := f1058.mono hz1126; replace f1061 := f1061.mono hz1126
            obtain ⟨mb1089', nxb1089, rfl, hnxb1089, hf⟩ := loopF_in hf
            unfold go_law11_PlanStill.b3 at hf
            try dsimp only at hf
            refine Run.seq ?_
            refine Run.seq ?_
            refine Run.region ?_
            refine Ops.ex (Ex.move rfl) rfl rfl rfl ?_
            refine Ops.ex (Ex.move rfl) rfl rfl rfl ?_
            refine Ops.ex (Ex.leq rfl rfl) rfl rfl rfl ?_
            refine Ops.nil ?_
            refine Run.cond rfl (fun hc => ?_) (fun hc => ?_)
            · replace hf := ifT (dec_T hc) hf
              refine Run.skip ?_
              refine Run.seq ?_
              refine Run.block ?_
              refine Run.seq ?_
              refine Run.region ?_
              refine Ops.loadAgg _ rfl Try.underlying27 rfl sz27 rfl (hst1126.cells (i := 1) rfl 0 2) rfl ?_
              refine Ops.ex (Ex.move rfl) rfl rfl rfl ?_
              refine Ops.ex (Ex.move rfl) rfl rfl rfl ?_
              obtain ⟨y1127, hy1127, hf⟩ := bnd hf
              refine Ops.call rfl rfl Try.func12 (by kernel_rfl) (by kernel_rfl) rfl (go_plan_Of.walk (p0 := (⟨l1058, y7.Floor⟩ : editsSet)) (p1 := wr (24 + ((p1 % 9).toNat : Int))) (p2 := x1125) (hst := hst1126) (f1 := f1058) (hf := hy1127)) ?_
              rintro _ w1127 ⟨z1127, A1128, A1129, c1129, A1130, c1130, rfl, hz1127, f1128, f1129, f1130, hst1127⟩
              refine ⟨_, rfl, ?_⟩
              replace f1058 := f1058.mono hz1127; replace f1061 := f1061.mono hz1127
              replace hy1126_0 := hy1126_0.trans hz1127
              replace hy1126_1 := hy1126_1.trans hz1127
              replace hy1126_2 := hy1126_2.trans hz1127
              replace hy1126_3 := hy1126_3.trans hz1127
              replace hz1126 := hz1126.trans hz1127
              refine Ops.ex (Ex.move rfl) rfl rfl rfl ?_
              refine Ops.ex (Ex.extract rfl rfl) rfl rfl rfl ?_
              refine Ops.ex (Ex.extract rfl rfl) rfl rfl rfl ?_
              refine Ops.allocF [.pointer none, .slice none 0 0, .slice none 0 0] hst1127 zr31 rfl rfl (fun g1132 w1132 hst1132 => ?_)
              refine Ops.store 1 [.pointer A1128, .slice A1129 y1127.1.Deltas.length c1129, .slice A1130 y1127.1.Parts.length c1130] hst1132 rfl rfl rfl rfl sz31 rfl (by simp [Value.oneCell']) (by simp) (fun w1133 hst1133 => ?_)
              refine Ops.ex (Ex.assign rfl) rfl rfl rfl ?_
              refine Ops.nil ?_
              refine Run.seq ?_
              refine Run.region ?_
              refine Ops.loadAgg _ rfl Try.underlying27 rfl sz27 rfl (hst1133.cells (i := 3) rfl 0 2) rfl ?_
              refine Ops.ex (Ex.move rfl) rfl rfl rfl ?_
              refine Ops.ex (Ex.move rfl) rfl rfl rfl ?_
              obtain ⟨y1134, hy1134, hf⟩ := bnd hf
              refine Ops.call rfl rfl Try.func12 (by kernel_rfl) (by kernel_rfl) rfl (go_plan_Of.walk (p0 := (⟨l1061, x1062⟩ : editsSet)) (p1 := wr (24 + ((p1 % 9).toNat : Int))) (p2 := x1125) (hst := hst1133) (f1 := f1061) (hf := hy1134)) ?_
              rintro _ w1134 ⟨z1134, A1135, A1136, c1136, A1137, c1137, rfl, hz1134, f1135, f1136, f1137, hst1134⟩
              refine ⟨_, rfl, ?_⟩
              replace f1058 := f1058.mono hz1134; replace f1128 := f1128.mono hz1134; replace f1129 := f1129.mono hz1134; replace f1130 := f1130.mono hz1134; replace f1061 := f1061.mono hz1134
              replace hy1126_0 := hy1126_0.trans hz1134
              replace hy1126_1 := hy1126_1.trans hz1134
              replace hy1126_2 := hy1126_2.trans hz1134
              replace hy1126_3 := hy1126_3.trans hz1134
              replace hz1126 := hz1126.trans hz1134
              refine Ops.ex (Ex.move rfl) rfl rfl rfl ?_
              refine Ops.ex (Ex.extract rfl rfl) rfl rfl rfl ?_
              refine Ops.ex (Ex.extract rfl rfl) rfl rfl rfl ?_
              refine Ops.allocF [.pointer none, .slice none 0 0, .slice none 0 0] hst1134 zr31 rfl rfl (fun g1139 w1139 hst1139 => ?_)
              refine Ops.store 1 [.pointer A1135, .slice A1136 y1134.1.Deltas.length c1136, .slice A1137 y1134.1.Parts.length c1137] hst1139 rfl rfl rfl rfl sz31 rfl (by simp [Value.oneCell']) (by simp) (fun w1140 hst1140 => ?_)
              refine Ops.ex (Ex.assign rfl) rfl rfl rfl ?_
              refine Ops.nil ?_
              refine Run.seq ?_
              refine Run.region ?_
              refine Ops.ex (Ex.move rfl) rfl rfl rfl ?_
              refine Ops.ex (Ex.neqI rfl rfl) rfl rfl rfl ?_
              refine Ops.ex (Ex.move rfl) rfl rfl rfl ?_
              refine Ops.case 104 rfl (fun hc => ?_) (fun hc => ?_)
              · replace hf := ifF (neq_T hc) hf
                refine Ops.off rfl rfl ?_
                refine Ops.off rfl rfl ?_
                refine Ops.off rfl rfl ?_
                refine Ops.off rfl rfl ?_
                refine Ops.offU rfl rfl ?_
                refine Ops.offU rfl rfl ?_
                refine Ops.off rfl rfl ?_
                refine Ops.ex (Ex.pickT rfl rfl) rfl rfl rfl ?_
                refine Ops.ex (Ex.move rfl) rfl rfl rfl ?_
                refine Ops.off rfl rfl ?_
                refine Ops.off rfl rfl ?_
                refine Ops.off rfl rfl ?_
                refine Ops.off rfl rfl ?_
                refine Ops.offU rfl rfl ?_
                refine Ops.offU rfl rfl ?_
                refine Ops.off rfl rfl ?_
                refine Ops.ex (Ex.pickT rfl rfl) rfl rfl rfl ?_
                refine Ops.nil ?_
                refine Run.condT rfl rfl ?_
                refine Run.seq ?_
                refine Run.region ?_
                refine Ops.ex (Ex.assign rfl) rfl rfl rfl ?_
                refine Ops.nil ?_
                obtain rfl := Option.some.inj hf
                exact Run.retV [vb false] rfl ⟨rfl, trivial⟩ ⟨z1134, rfl, hy1126_0, (St.forget (St.forget (St.forget (St.forget hst1140 4) 3) 2) 1)⟩
              · replace hf := ifT (neq_F hc) hf
                refine Ops.on rfl ?_
                refine Ops.ex (Ex.move rfl) rfl rfl rfl ?_
                refine Ops.on rfl ?_
                refine Ops.ex (Ex.move rfl) rfl rfl rfl ?_
                refine Ops.on rfl ?_
                refine Ops.ex (Ex.geq rfl rfl) rfl rfl rfl ?_
                refine Ops.on rfl ?_
                refine Ops.ex (Ex.move rfl) rfl rfl rfl ?_
                refine Ops.case 108 rfl (fun hc => ?_) (fun hc => ?_)
                · replace hf := ifT (dec_T hc) hf
                  refine Ops.on rfl ?_
                  refine Ops.ex (Ex.move rfl) rfl rfl rfl ?_
                  refine Ops.on rfl ?_
                  refine Ops.ex (Ex.neqI rfl rfl) rfl rfl rfl ?_
                  refine Ops.on rfl ?_
                  refine Ops.ex (Ex.pickT rfl rfl) rfl rfl rfl ?_
                  refine Ops.ex (Ex.pickF rfl rfl) rfl rfl rfl ?_
                  refine Ops.ex (Ex.move rfl) rfl rfl rfl ?_
                  refine Ops.case 113 rfl (fun hc => ?_) (fun hc => ?_)
                  · replace hf := ifF (neq_T hc) hf
                    refine Ops.off rfl rfl ?_
                    refine Ops.off rfl rfl ?_
                    refine Ops.off rfl rfl ?_
                    refine Ops.off rfl rfl ?_
                    refine Ops.offU rfl rfl ?_
                    refine Ops.offU rfl rfl ?_
                    refine Ops.off rfl rfl ?_
                    refine Ops.ex (Ex.pickT rfl rfl) rfl rfl rfl ?_
                    refine Ops.nil ?_
                    refine Run.condT rfl rfl ?_
                    refine Run.seq ?_
                    refine Run.region ?_
                    refine Ops.ex (Ex.assign rfl) rfl rfl rfl ?_
                    refine Ops.nil ?_
                    obtain rfl := Option.some.inj hf
                    exact Run.retV [vb false] rfl ⟨rfl, trivial⟩ ⟨z1134, rfl, hy1126_0, (St.forget (St.forget (St.forget (St.forget hst1140 4) 3) 2) 1)⟩
                  · replace hf := ifT (neq_F hc) hf
                    refine Ops.on rfl ?_
                    refine Ops.ex (Ex.move rfl) rfl rfl rfl ?_
                    refine Ops.on rfl ?_
                    refine Ops.ex (Ex.move rfl) rfl rfl rfl ?_
                    refine Ops.on rfl ?_
                    refine Ops.ex (Ex.lss rfl rfl) rfl rfl rfl ?_
                    refine Ops.on rfl ?_
                    refine Ops.ex (Ex.move rfl) rfl rfl rfl ?_
                    refine Ops.case 117 rfl (fun hc => ?_) (fun hc => ?_)
                    · replace hf := ifT (dec_T hc) hf
                      refine Ops.on rfl ?_
                      refine Ops.ex (Ex.move rfl) rfl rfl rfl ?_
                      refine Ops.on rfl ?_
                      refine Ops.ex (Ex.neqI rfl rfl) rfl rfl rfl ?_
                      refine Ops.on rfl ?_
                      refine Ops.ex (Ex.pickT rfl rfl) rfl rfl rfl ?_
                      refine Ops.ex (Ex.pickF rfl rfl) rfl rfl rfl ?_
                      refine Ops.nil ?_
                      refine Run.cond rfl (fun hc => ?_) (fun hc => ?_)
                      · replace hf := ifF (neq_T hc) hf
                        refine Run.seq ?_
                        refine Run.region ?_
                        refine Ops.ex (Ex.assign rfl) rfl rfl rfl ?_
                        refine Ops.nil ?_
                        obtain rfl := Option.some.inj hf
                        exact Run.retV [vb false] rfl ⟨rfl, trivial⟩ ⟨z1134, rfl, hy1126_0, (St.forget (St.forget (St.forget (St.forget hst1140 4) 3) 2) 1)⟩
                      · replace hf := ifT (neq_F hc) hf
                        refine Run.skip ?_
                        refine Run.endBlk ?_
                        refine Run.region ?_
                        refine Ops.ex (Ex.move rfl) rfl rfl rfl ?_
                        refine Ops.ex (Ex.add rfl rfl) rfl rfl rfl ?_
                        refine Ops.ex (Ex.assign rfl) rfl rfl rfl ?_
                        refine Ops.nil ?_
                        exact Run.sub (by exact subB_spec ⟨rfl, rfl, rfl, rfl, rfl, trivial⟩) (Run.stop ⟨mb1089', Nat.lt_succ_self _, wr (x1125 + 1), z1134, (hnxb1089 _).symm.trans hf, rfl, hz1126, hy1126_0, hy1126_1, hy1126_2, hy1126_3, (St.forget (St.forget hst1140 2) 1)⟩)
                    · replace hf := ifF (dec_F hc) hf
                      refine Ops.off rfl rfl ?_
                      refine Ops.off rfl rfl ?_
                      refine Ops.on rfl ?_
                      refine Ops.ex (Ex.pickF rfl rfl) rfl rfl rfl ?_
                      refine Ops.ex (Ex.pickF rfl rfl) rfl rfl rfl ?_
                      refine Ops.nil ?_
                      refine Run.condF rfl rfl ?_
                      refine Run.skip ?_
                      refine Run.endBlk ?_
                      refine Run.region ?_
                      refine Ops.ex (Ex.move rfl) rfl rfl rfl ?_
                      refine Ops.ex (Ex.add rfl rfl) rfl rfl rfl ?_
                      refine Ops.ex (Ex.assign rfl) rfl rfl rfl ?_
                      refine Ops.nil ?_
                      exact Run.sub (by exact subB_spec ⟨rfl, rfl, rfl, rfl, rfl, trivial⟩) (Run.stop ⟨mb1089', Nat.lt_succ_self _, wr (x1125 + 1), z1134, (hnxb1089 _).symm.trans hf, rfl, hz1126, hy1126_0, hy1126_1, hy1126_2, hy1126_3, (St.forget (St.forget hst1140 2) 1)⟩)
                · replace hf := ifF (dec_F hc) hf
                  refine Ops.off rfl rfl ?_
                  refine Ops.off rfl rfl ?_
                  refine Ops.on rfl ?_
                  refine Ops.ex (Ex.pickF rfl rfl) rfl rfl rfl ?_
                  refine Ops.ex (Ex.pickF rfl rfl) rfl rfl rfl ?_
                  refine Ops.ex (Ex.move rfl) rfl rfl rfl ?_
                  refine Ops.on rfl ?_
                  refine Ops.ex (Ex.move rfl) rfl rfl rfl ?_
                  refine Ops.on rfl ?_
                  refine Ops.ex (Ex.move rfl) rfl rfl rfl ?_
                  refine Ops.on rfl ?_
                  refine Ops.ex (Ex.lss rfl rfl) rfl rfl rfl ?_
                  refine Ops.on rfl ?_
                  refine Ops.ex (Ex.move rfl) rfl rfl rfl ?_
                  refine Ops.case 117 rfl (fun hc => ?_) (fun hc => ?_)
                  · replace hf := ifT (dec_T hc) hf
                    refine Ops.on rfl ?_
                    refine Ops.ex (Ex.move rfl) rfl rfl rfl ?_
                    refine Ops.on rfl ?_
                    refine Ops.ex (Ex.neqI rfl rfl) rfl rfl rfl ?_
                    refine Ops.on rfl ?_
                    refine Ops.ex (Ex.pickT rfl rfl) rfl rfl rfl ?_
                    refine Ops.ex (Ex.pickF rfl rfl) rfl rfl rfl ?_
                    refine Ops.nil ?_
                    refine Run.cond rfl (fun hc => ?_) (fun hc => ?_)
                    · replace hf := ifF (neq_T hc) hf
                      refine Run.seq ?_
                      refine Run.region ?_
                      refine Ops.ex (Ex.assign rfl) rfl rfl rfl ?_
                      refine Ops.nil ?_
                      obtain rfl := Option.some.inj hf
                      exact Run.retV [vb false] rfl ⟨rfl, trivial⟩ ⟨z1134, rfl, hy1126_0, (St.forget (St.forget (St.forget (St.forget hst1140 4) 3) 2) 1)⟩
                    · replace hf := ifT (neq_F hc) hf
                      refine Run.skip ?_
                      refine Run.endBlk ?_
                      refine Run.region ?_
                      refine Ops.ex (Ex.move rfl) rfl rfl rfl ?_
                      refine Ops.ex (Ex.add rfl rfl) rfl rfl rfl ?_
                      refine Ops.ex (Ex.assign rfl) rfl rfl rfl ?_
                      refine Ops.nil ?_
                      exact Run.sub (by exact subB_spec ⟨rfl, rfl, rfl, rfl, rfl, trivial⟩) (Run.stop ⟨mb1089', Nat.lt_succ_self _, wr (x1125 + 1), z1134, (hnxb1089 _).symm.trans hf, rfl, hz1126, hy1126_0, hy1126_1, hy1126_2, hy1126_3, (St.forget (St.forget hst1140 2) 1)⟩)
                  · replace hf := ifF (dec_F hc) hf
                    refine Ops.off rfl rfl ?_
                    refine Ops.off rfl rfl ?_
                    refine Ops.on rfl ?_
                    refine Ops.ex (Ex.pickF rfl rfl) rfl rfl rfl ?_
                    refine Ops.ex (Ex.pickF rfl rfl) rfl rfl rfl ?_
                    refine Ops.nil ?_
                    refine Run.condF rfl rfl ?_
                    refine Run.skip ?_
                    refine Run.endBlk ?_
                    refine Run.region ?_
                    refine Ops.ex (Ex.move rfl) rfl rfl rfl ?_
                    refine Ops.ex (Ex.add rfl rfl) rfl rfl rfl ?_
                    refine Ops.ex (Ex.assign rfl) rfl rfl rfl ?_
                    refine Ops.nil ?_
                    exact Run.sub (by exact subB_spec ⟨rfl, rfl, rfl, rfl, rfl, trivial⟩) (Run.stop ⟨mb1089', Nat.lt_succ_self _, wr (x1125 + 1), z1134, (hnxb1089 _).symm.trans hf, rfl, hz1126, hy1126_0, hy1126_1, hy1126_2, hy1126_3, (St.forget (St.forget hst1140 2) 1)⟩)
            · replace hf := ifF (dec_F hc) hf
              refine Run.exit _ rfl ?_
              refine Run.seq ?_
              refine Run.region ?_
              refine Ops.ex (Ex.assign rfl) rfl rfl rfl ?_
              refine Ops.nil ?_
              obtain rfl := Option.some.inj hf
              exact Run.retV [vb true] rfl ⟨rfl, trivial⟩ ⟨z1124, rfl, hy1126_0, (St.forget (St.forget hst1126 2) 1)⟩
end Go.Proofs.Ytbinmebiknjncaa.Q2
