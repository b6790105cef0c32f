/- Plan: laws. -/
import Derived.Test.YtbinmebiknjncaaP2
namespace Go.Proofs.Ytbinmebiknjncaa.P3
open Go Go.RowKit Go.Proofs.Ytbinmebiknjncaa.Sx Go.Proofs.Ytbinmebiknjncaa.P1 Go.Proofs.Ytbinmebiknjncaa.P2
set_option linter.unusedVariables false
set_option linter.unusedSimpArgs false
def go_law11_awake : Option Bool :=
  (go_plan_Of (⟨[(⟨[100], 1, 3, 5⟩ : apiRef), (⟨[102], 0, 3, 3⟩ : apiRef), (⟨[112], 2, 0, 0⟩ : apiRef)], 0⟩ : editsSet) 6 6).bind fun y4 => (go_plan_Of (⟨[(⟨[100], 1, 3, 5⟩ : apiRef), (⟨[102], 0, 3, 3⟩ : apiRef), (⟨[112], 2, 0, 0⟩ : apiRef)], 0⟩ : editsSet) 6 7).bind fun y12 => if y4.2 = 0 then (if y12.2 = 9 then (if y4.1.Full = none then (some false) else ((y4.1.Full).bind fun y19 => if y19.To = 3 then (if (y4.1.Deltas.length : Int) = 1 then (some (decide ((y4.1.Parts.length : Int) = 1))) else (some false)) else (some false))) else (some false)) else (some false)
set_option maxRecDepth 100000 in
set_option maxHeartbeats 4000000 in
theorem go_law11_awake.walk {w0 w : World} {X : List Res} {z0 : Zp}  {r : Bool} (hst : Ht w0 (frz z0 :: X) w) (hf : go_law11_awake = some r) :
    Calls Try.prog 10 #[] w fun e w' => ∃ (z' : Zp), e = .returned (vb r) ∧ Le z0 z' ∧ Ht w0 (frz z' :: X) w' := by
  refine calls_np Try.func10 rfl rfl ?_
  have hle0 := Le.refl z0
  unfold go_law11_awake at hf
  refine Run.seq ?_
  refine Run.region ?_
  refine Ops.ex (Ex.assign rfl) rfl rfl rfl ?_
  refine Ops.nil ?_
  refine Run.seq ?_
  refine Run.region ?_
  refine Ops.ex (Ex.build [vs [100], vi 1, vi 3, vi 5] rfl Try.underlying37 zr37 (pl37 Try.underlying37) (by kernel_rfl)) rfl rfl rfl ?_
  refine Ops.ex (Ex.build [vs [102], vi 0, vi 3, vi 3] rfl Try.underlying37 zr37 (pl37 Try.underlying37) (by kernel_rfl)) rfl rfl rfl ?_
  refine Ops.ex (Ex.build [vs [112], vi 2, vi 0, vi 0] rfl Try.underlying37 zr37 (pl37 Try.underlying37) (by kernel_rfl)) rfl rfl rfl ?_
  refine Ops.sliceF [vs [100], vi 1, vi 3, vi 5, vs [102], vi 0, vi 3, vi 3, vs [112], vi 2, vi 0, vi 0] hst rfl Try.underlying25 sz37 zr37 rfl rfl (by kernel_rfl) rfl (by simp [Value.oneCell']) rfl (fun A1 w1 hst1 => ?_)
  have f1 : Cs tapiRef z0 [vs [100], vi 1, vi 3, vi 5, vs [102], vi 0, vi 3, vi 3, vs [112], vi 2, vi 0, vi 0] [(⟨[100], 1, 3, 5⟩ : apiRef), (⟨[102], 0, 3, 3⟩ : apiRef), (⟨[112], 2, 0, 0⟩ : apiRef)] := (Cs.cons (c := [vs [100], vi 1, vi 3, vi 5]) rfl (Cs.cons (c := [vs [102], vi 0, vi 3, vi 3]) rfl (Cs.cons (c := [vs [112], vi 2, vi 0, vi 0]) rfl (Cs.nil _ _))))
  refine Ops.ex (Ex.build [.slice A1 ([(⟨[100], 1, 3, 5⟩ : apiRef), (⟨[102], 0, 3, 3⟩ : apiRef), (⟨[112], 2, 0, 0⟩ : apiRef)]).length 3, vi 0] rfl Try.underlying27 zr27 (pl27 Try.underlying27) (by kernel_rfl)) rfl rfl rfl ?_
  refine Ops.allocF [.slice none 0 0, vi 0] hst1 zr27 rfl rfl (fun g2 w2 hst2 => ?_)
  refine Ops.store 1 [.slice A1 ([(⟨[100], 1, 3, 5⟩ : apiRef), (⟨[102], 0, 3, 3⟩ : apiRef), (⟨[112], 2, 0, 0⟩ : apiRef)]).length 3, vi 0] hst2 rfl rfl rfl rfl sz27 rfl (by simp [Value.oneCell']) (by simp) (fun w3 hst3 => ?_)
  refine Ops.nil ?_
  refine Run.seq ?_
  refine Run.region ?_
  refine Ops.loadAgg _ rfl Try.underlying27 rfl sz27 rfl (hst3.cells (i := 1) rfl 0 2) rfl ?_
  obtain ⟨z5, hz5, f5, hst5⟩ := St.freeze (τ := tapiRef) (xs := ([(⟨[100], 1, 3, 5⟩ : apiRef), (⟨[102], 0, 3, 3⟩ : apiRef), (⟨[112], 2, 0, 0⟩ : apiRef)])) (St.up (St.up (St.up hst3 1 rfl) 2 rfl) 2 rfl) f1 rfl
  replace hle0 := hle0.trans hz5
  obtain ⟨y4, hy4, hf⟩ := bnd hf
  refine Ops.call rfl rfl Try.func12 (by kernel_rfl) (by kernel_rfl) rfl (go_plan_Of.walk (p0 := (⟨[(⟨[100], 1, 3, 5⟩ : apiRef), (⟨[102], 0, 3, 3⟩ : apiRef), (⟨[112], 2, 0, 0⟩ : apiRef)], 0⟩ : editsSet)) (p1 := 6) (p2 := 6) (hst := hst5) (f1 := f5) (hf := hy4)) ?_
  rintro _ w4 ⟨z4, A6, A7, c7, A8, c8, rfl, hz4, f6, f7, f8, hst4⟩
  refine ⟨_, rfl, ?_⟩
  replace f5 := f5.mono hz4
  replace hle0 := hle0.trans hz4
  refine Ops.ex (Ex.move rfl) rfl rfl rfl ?_
  refine Ops.ex (Ex.extract rfl rfl) rfl rfl rfl ?_
  refine Ops.ex (Ex.extract rfl rfl) rfl rfl rfl ?_
  refine Ops.allocF [.pointer none, .slice none 0 0, .slice none 0 0] hst4 zr31 rfl rfl (fun g10 w10 hst10 => ?_)
  refine Ops.store 1 [.pointer A6, .slice A7 y4.1.Deltas.length c7, .slice A8 y4.1.Parts.length c8] hst10 rfl rfl rfl rfl sz31 rfl (by simp [Value.oneCell']) (by simp) (fun w11 hst11 => ?_)
  refine Ops.ex (Ex.assign rfl) rfl rfl rfl ?_
  refine Ops.nil ?_
  refine Run.seq ?_
  refine Run.region ?_
  refine Ops.loadAgg _ rfl Try.underlying27 rfl sz27 rfl (hst11.cells (i := 2) rfl 0 2) rfl ?_
  obtain ⟨y12, hy12, hf⟩ := bnd hf
  refine Ops.call rfl rfl Try.func12 (by kernel_rfl) (by kernel_rfl) rfl (go_plan_Of.walk (p0 := (⟨[(⟨[100], 1, 3, 5⟩ : apiRef), (⟨[102], 0, 3, 3⟩ : apiRef), (⟨[112], 2, 0, 0⟩ : apiRef)], 0⟩ : editsSet)) (p1 := 6) (p2 := 7) (hst := hst11) (f1 := f5) (hf := hy12)) ?_
  rintro _ w12 ⟨z12, A13, A14, c14, A15, c15, rfl, hz12, f13, f14, f15, hst12⟩
  refine ⟨_, rfl, ?_⟩
  replace f5 := f5.mono hz12; replace f6 := f6.mono hz12; replace f7 := f7.mono hz12; replace f8 := f8.mono hz12
  replace hle0 := hle0.trans hz12
  refine Ops.ex (Ex.move rfl) rfl rfl rfl ?_
  refine Ops.ex (Ex.extract rfl rfl) rfl rfl rfl ?_
  refine Ops.ex (Ex.extract rfl rfl) rfl rfl rfl ?_
  refine Ops.allocF [.pointer none, .slice none 0 0, .slice none 0 0] hst12 zr31 rfl rfl (fun g17 w17 hst17 => ?_)
  refine Ops.store 1 [.pointer A13, .slice A14 y12.1.Deltas.length c14, .slice A15 y12.1.Parts.length c15] hst17 rfl rfl rfl rfl sz31 rfl (by simp [Value.oneCell']) (by simp) (fun w18 hst18 => ?_)
  refine Ops.ex (Ex.assign rfl) rfl rfl rfl ?_
  refine Ops.nil ?_
  refine Run.seq ?_
  refine Run.region ?_
  refine Ops.ex (Ex.move rfl) rfl rfl rfl ?_
  refine Ops.ex (Ex.eqlI rfl rfl) rfl rfl rfl ?_
  refine Ops.ex (Ex.move rfl) rfl rfl rfl ?_
  refine Ops.case 23 rfl (fun hc => ?_) (fun hc => ?_)
  · replace hf := ifT (dec_T hc) hf
    refine Ops.on rfl ?_
    refine Ops.ex (Ex.move rfl) rfl rfl rfl ?_
    refine Ops.on rfl ?_
    refine Ops.ex (Ex.eqlI rfl rfl) rfl rfl rfl ?_
    refine Ops.ex (Ex.pickT rfl rfl) rfl rfl rfl ?_
    refine Ops.ex (Ex.move rfl) rfl rfl rfl ?_
    refine Ops.case 27 rfl (fun hc => ?_) (fun hc => ?_)
    · replace hf := ifT (dec_T hc) hf
      refine Ops.on rfl ?_
      refine Ops.ex (Ex.fieldAddr rfl Try.underlying31 rfl sz29) rfl rfl rfl ?_
      refine Ops.on rfl ?_
      refine Ops.load rfl Try.underlying29 rfl (hst18.cell (i := 2) rfl rfl) rfl ?_
      refine Ops.on rfl ?_
      refine Ops.ex (Ex.neqP f6 rfl rfl Try.underlying29) rfl rfl rfl ?_
      refine Ops.ex (Ex.pickT rfl rfl) rfl rfl rfl ?_
      refine Ops.ex (Ex.move rfl) rfl rfl rfl ?_
      refine Ops.case 32 rfl (fun hc => ?_) (fun hc => ?_)
      · replace hf := ifF (neq_T hc) hf
        refine Ops.on rfl ?_
        refine Ops.ex (Ex.fieldAddr rfl Try.underlying31 rfl sz29) rfl rfl rfl ?_
        refine Ops.on rfl ?_
        refine Ops.load rfl Try.underlying29 rfl (hst18.cell (i := 2) rfl rfl) rfl ?_
        refine Ops.on rfl ?_
        obtain ⟨y19, hy19, hf⟩ := bnd hf
        obtain ⟨g19, o19, cs19, hA19, f19, hr19⟩ := f6.some hy19
        obtain rfl := hr19
        refine Ops.ex (Ex.nilP hA19 rfl) rfl rfl rfl ?_
        refine Ops.on rfl ?_
        refine Ops.ex (Ex.fieldAddr rfl Try.underlying37 rfl sz3) rfl rfl rfl ?_
        refine Ops.on rfl ?_
        refine Ops.load rfl Try.underlying3 rfl ((f19.mono hst18.le) 3 _ rfl) rfl ?_
        refine Ops.on rfl ?_
        refine Ops.ex (Ex.eqlI rfl rfl) rfl rfl rfl ?_
        refine Ops.ex (Ex.pickT rfl rfl) rfl rfl rfl ?_
        refine Ops.ex (Ex.move rfl) rfl rfl rfl ?_
        refine Ops.case 40 rfl (fun hc => ?_) (fun hc => ?_)
        · replace hf := ifT (dec_T hc) hf
          refine Ops.on rfl ?_
          refine Ops.ex (Ex.fieldAddr rfl Try.underlying31 rfl sz25) rfl rfl rfl ?_
          refine Ops.on rfl ?_
          refine Ops.load rfl Try.underlying25 rfl (hst18.cell (i := 2) rfl rfl) rfl ?_
          refine Ops.on rfl ?_
          refine Ops.ex (Ex.len' rfl rfl rfl Try.underlying25) rfl rfl rfl ?_
          refine Ops.on rfl ?_
          refine Ops.ex (Ex.eqlI rfl rfl) rfl rfl rfl ?_
          refine Ops.ex (Ex.pickT rfl rfl) rfl rfl rfl ?_
          refine Ops.ex (Ex.move rfl) rfl rfl rfl ?_
          refine Ops.case 46 rfl (fun hc => ?_) (fun hc => ?_)
          · replace hf := ifT (dec_T hc) hf
            refine Ops.on rfl ?_
            refine Ops.ex (Ex.fieldAddr rfl Try.underlying31 rfl sz25) rfl rfl rfl ?_
            refine Ops.on rfl ?_
            refine Ops.load rfl Try.underlying25 rfl (hst18.cell (i := 2) rfl rfl) rfl ?_
            refine Ops.on rfl ?_
            refine Ops.ex (Ex.len' rfl rfl rfl Try.underlying25) rfl rfl rfl ?_
            refine Ops.on rfl ?_
            refine Ops.ex (Ex.eqlI rfl rfl) rfl rfl rfl ?_
            refine Ops.ex (Ex.pickT rfl rfl) rfl rfl rfl ?_
            refine Ops.ex (Ex.assign rfl) rfl rfl rfl ?_
            refine Ops.nil ?_
            obtain rfl := Option.some.inj hf
            exact Run.retV [vb (decide ((y4.1.Parts.length : Int) = 1))] rfl ⟨rfl, trivial⟩ ⟨z12, rfl, hle0, (St.forget (St.forget (St.forget hst18 3) 2) 1)⟩
          · replace hf := ifF (dec_F hc) hf
            refine Ops.off rfl rfl ?_
            refine Ops.off rfl rfl ?_
            refine Ops.off rfl rfl ?_
            refine Ops.off rfl rfl ?_
            refine Ops.ex (Ex.pickF rfl rfl) rfl rfl rfl ?_
            refine Ops.ex (Ex.assign rfl) rfl rfl rfl ?_
            refine Ops.nil ?_
            obtain rfl := Option.some.inj hf
            exact Run.retV [vb false] rfl ⟨rfl, trivial⟩ ⟨z12, rfl, hle0, (St.forget (St.forget (St.forget hst18 3) 2) 1)⟩
        · replace hf := ifF (dec_F hc) hf
          refine Ops.off rfl rfl ?_
          refine Ops.off rfl rfl ?_
          refine Ops.off rfl rfl ?_
          refine Ops.off rfl rfl ?_
          refine Ops.ex (Ex.pickF rfl rfl) rfl rfl rfl ?_
          refine Ops.ex (Ex.move rfl) rfl rfl rfl ?_
          refine Ops.off rfl rfl ?_
          refine Ops.off rfl rfl ?_
          refine Ops.off rfl rfl ?_
          refine Ops.off rfl rfl ?_
          refine Ops.ex (Ex.pickF rfl rfl) rfl rfl rfl ?_
          refine Ops.ex (Ex.assign rfl) rfl rfl rfl ?_
          refine Ops.nil ?_
          obtain rfl := Option.some.inj hf
          exact Run.retV [vb false] rfl ⟨rfl, trivial⟩ ⟨z12, rfl, hle0, (St.forget (St.forget (St.forget hst18 3) 2) 1)⟩
      · replace hf := ifT (neq_F hc) hf
        refine Ops.off rfl rfl ?_
        refine Ops.off rfl rfl ?_
        refine Ops.off rfl rfl ?_
        refine Ops.off rfl rfl ?_
        refine Ops.off rfl rfl ?_
        refine Ops.off rfl rfl ?_
        refine Ops.ex (Ex.pickF rfl rfl) rfl rfl rfl ?_
        refine Ops.ex (Ex.move rfl) rfl rfl rfl ?_
        refine Ops.off rfl rfl ?_
        refine Ops.off rfl rfl ?_
        refine Ops.off rfl rfl ?_
        refine Ops.off rfl rfl ?_
        refine Ops.ex (Ex.pickF rfl rfl) rfl rfl rfl ?_
        refine Ops.ex (Ex.move rfl) rfl rfl rfl ?_
        refine Ops.off rfl rfl ?_
        refine Ops.off rfl rfl ?_
        refine Ops.off rfl rfl ?_
        refine Ops.off rfl rfl ?_
        refine Ops.ex (Ex.pickF rfl rfl) rfl rfl rfl ?_
        refine Ops.ex (Ex.assign rfl) rfl rfl rfl ?_
        refine Ops.nil ?_
        obtain rfl := Option.some.inj hf
        exact Run.retV [vb false] rfl ⟨rfl, trivial⟩ ⟨z12, rfl, hle0, (St.forget (St.forget (St.forget hst18 3) 2) 1)⟩
    · replace hf := ifF (dec_F hc) hf
      refine Ops.off rfl rfl ?_
      refine Ops.off rfl rfl ?_
      refine Ops.off rfl rfl ?_
      refine Ops.ex (Ex.pickF rfl rfl) rfl rfl rfl ?_
      refine Ops.ex (Ex.move rfl) rfl rfl rfl ?_
      refine Ops.off rfl rfl ?_
      refine Ops.off rfl rfl ?_
      refine Ops.off rfl rfl ?_
      refine Ops.off rfl rfl ?_
      refine Ops.off rfl rfl ?_
      refine Ops.off rfl rfl ?_
      refine Ops.ex (Ex.pickF rfl rfl) rfl rfl rfl ?_
      refine Ops.ex (Ex.move rfl) rfl rfl rfl ?_
      refine Ops.off rfl rfl ?_
      refine Ops.off rfl rfl ?_
      refine Ops.off rfl rfl ?_
      refine Ops.off rfl rfl ?_
      refine Ops.ex (Ex.pickF rfl rfl) rfl rfl rfl ?_
      refine Ops.ex (Ex.move rfl) rfl rfl rfl ?_
      refine Ops.off rfl rfl ?_
      refine Ops.off rfl rfl ?_
      refine Ops.off rfl rfl ?_
      refine Ops.off rfl rfl ?_
      refine Ops.ex (Ex.pickF rfl rfl) rfl rfl rfl ?_
      refine Ops.ex (Ex.assign rfl) rfl rfl rfl ?_
      refine Ops.nil ?_
      obtain rfl := Option.some.inj hf
      exact Run.retV [vb false] rfl ⟨rfl, trivial⟩ ⟨z12, rfl, hle0, (St.forget (St.forget (St.forget hst18 3) 2) 1)⟩
  · replace hf := ifF (dec_F hc) hf
    refine Ops.off rfl rfl ?_
    refine Ops.off rfl rfl ?_
    refine Ops.ex (Ex.pickF rfl rfl) rfl rfl rfl ?_
    refine Ops.ex (Ex.move rfl) rfl rfl rfl ?_
    refine Ops.off rfl rfl ?_
    refine Ops.off rfl rfl ?_
    refine Ops.off rfl rfl ?_
    refine Ops.ex (Ex.pickF rfl rfl) rfl rfl rfl ?_
    refine Ops.ex (Ex.move rfl) rfl rfl rfl ?_
    refine Ops.off rfl rfl ?_
    refine Ops.off rfl rfl ?_
    refine Ops.off rfl rfl ?_
    refine Ops.off rfl rfl ?_
    refine Ops.off rfl rfl ?_
    refine Ops.off rfl rfl ?_
    refine Ops.ex (Ex.pickF rfl rfl) rfl rfl rfl ?_
    refine Ops.ex (Ex.move rfl) rfl rfl rfl ?_
    refine Ops.off rfl rfl ?_
    refine Ops.off rfl rfl ?_
    refine Ops.off rfl rfl ?_
    refine Ops.off rfl rfl ?_
    refine Ops.ex (Ex.pickF rfl rfl) rfl rfl rfl ?_
    refine Ops.ex (Ex.move rfl) rfl rfl rfl ?_
    refine Ops.off rfl rfl ?_
    refine Ops.off rfl rfl ?_
    refine Ops.off rfl rfl ?_
    refine Ops.off rfl rfl ?_
    refine Ops.ex (Ex.pickF rfl rfl) rfl rfl rfl ?_
    refine Ops.ex (Ex.assign rfl) rfl rfl rfl ?_
    refine Ops.nil ?_
    obtain rfl := Option.some.inj hf
    exact Run.retV [vb false] rfl ⟨rfl, trivial⟩ ⟨z12, rfl, hle0, (St.forget (St.forget (St.forget hst18 3) 2) 1)⟩
def go_law11_PlanOf.j3 (p3 : Int8) (x1535 : Int) (l1536 : List apiRef) (a1444 : apiRef) (nxb1444 : (Int × List apiRef) → Option Bool) (x1555 : Int) : Option Bool :=
  if x1535 < p3.toInt then (if a1444.From ≤ x1535 then (if x1535 < x1555 then ((apB 40 l1536 [a1444]).bind fun l1558 => nxb1444 (x1555, l1558)) else (nxb1444 (x1535, l1536))) else (nxb1444 (x1535, l1536))) else (nxb1444 (x1535, l1536))
def go_law11_PlanOf.j2 (p2 : UInt8) (p3 : Int8) (x1535 : Int) (l1536 : List apiRef) (a1444 : apiRef) (nxb1444 : (Int × List apiRef) → Option Bool) (b1550 : Bool) : Option Bool :=
  if b1550 then (go_law11_PlanOf.j3 p3 x1535 l1536 a1444 nxb1444 ((p2 % 32).toNat : Int)) else (go_law11_PlanOf.j3 p3 x1535 l1536 a1444 nxb1444 a1444.To)
def go_law11_PlanOf.b3 (p2 : UInt8) (p3 : Int8) (y1442 : List apiRef) (i1444 : Nat) (a1444 : apiRef) : (Int × List apiRef) → (Int × List apiRef → Option Bool) → Option Bool :=
  fun (x1535, l1536) nxb1444 => if (i1444 : Int) = wr ((y1442.length : Int) - 1) then (go_law11_PlanOf.j2 p2 p3 x1535 l1536 a1444 nxb1444 (decide (a1444.To < ((p2 % 32).toNat : Int)))) else (go_law11_PlanOf.j2 p2 p3 x1535 l1536 a1444 nxb1444 false)
def go_law11_PlanOf.b2 (p2 : UInt8) (p3 : Int8) (y7 : editsSet) (y12 : planPlan × Int) (y24 : apiRef × Int) (x1065 : Int) (l1066 : List apiRef) (nxb32 : (Int × List apiRef) → Option Bool) (y1070 : List apiRef) : (Int × Int) → (Int × Int → Option Bool) → Option Bool :=
  fun (x1423, x1424) nxb1072 => if 0 ≤ x1424 then ((atI y1070 x1424).bind fun y1426 => if y1426.From = x1065 then (if x1065 < y1426.To then (if y1426.To ≤ p3.toInt then (nxb1072 (x1424, wr (x1424 - 1))) else (nxb1072 (x1423, wr (x1424 - 1)))) else (nxb1072 (x1423, wr (x1424 - 1)))) else (nxb1072 (x1423, wr (x1424 - 1)))) else (if x1423 < 0 then ((go_law11_of y7 2).bind fun y1442 => forL (go_law11_PlanOf.b3 p2 p3 y1442) (fun (x1535, l1536) => if x1535 < p3.toInt then (if y12.2 = 9 then (if y12.1.Full = none then (some (decide ((y12.1.Deltas.length : Int) = 0))) else (some false)) else (some false)) else (if y12.2 = 0 then (if (!(decide (y12.1.Full = none))) = (decide (0 ≤ y24.2)) then (if 0 ≤ y24.2 then ((y12.1.Full).bind fun y1569 => if y1569 = y24.1 then ((go_law11_refs y12.1.Deltas l1066).bind fun y1574 => if y1574 then ((go_law11_refs y12.1.Parts l1536).bind fun y1578 => some y1578) else (some false)) else (some false)) else ((go_law11_refs y12.1.Deltas l1066).bind fun y1561 => if y1561 then ((go_law11_refs y12.1.Parts l1536).bind fun y1565 => some y1565) else (some false))) else (some false)) else (some false))) 0 y1442 (x1065, [])) else ((atI y1070 x1423).bind fun y1584 => (apB 40 l1066 [y1584]).bind fun l1596 => nxb32 (y1584.To, l1596)))
def go_law11_PlanOf.b1 (p2 : UInt8) (p3 : Int8) (y7 : editsSet) (y12 : planPlan × Int) (y24 : apiRef × Int) : (Int × List apiRef) → (Int × List apiRef → Option Bool) → Option Bool :=
  fun (x1065, l1066) nxb32 => (go_law11_of y7 1).bind fun y1070 => loopF (go_law11_PlanOf.b2 p2 p3 y7 y12 y24 x1065 l1066 nxb32 y1070) fuel ((-1), wr ((y1070.length : Int) - 1))
def go_law11_PlanOf.j1 (p2 : UInt8) (p3 : Int8) (y7 : editsSet) (y12 : planPlan × Int) (b22 : Bool) : Option Bool :=
  if b22 then (if y12.2 = 9 then (if y12.1.Full = none then (if (y12.1.Deltas.length : Int) = 0 then (some (decide ((y12.1.Parts.length : Int) = 0))) else (some false)) else (some false)) else (some false)) else ((go_law11_full y7 p3.toInt).bind fun y24 => loopF (go_law11_PlanOf.b1 p2 p3 y7 y12 y24) fuel (max y24.2 0, []))
def go_law11_PlanOf (p0 : List law11Ref) (p1 : UInt8) (p2 : UInt8) (p3 : Int8) : Option Bool :=
  (go_law11_awake).bind fun y5 => if y5 then ((go_law11_Set p0 p1).bind fun y7 => (go_plan_Of y7 ((p2 % 32).toNat : Int) p3.toInt).bind fun y12 => if p3.toInt < y7.Floor then (go_law11_PlanOf.j1 p2 p3 y7 y12 true) else (go_law11_PlanOf.j1 p2 p3 y7 y12 (decide (((p2 % 32).toNat : Int) < p3.toInt)))) else (some false)
set_option maxRecDepth 100000 in
set_option maxHeartbeats 4000000 in
theorem go_law11_PlanOf.walk {w0 w : World} {X : List Res} {z0 : Zp} {p0 : List law11Ref} {A1 : Option Addr} {c1 : Nat} {p1 : UInt8} {p2 : UInt8} {p3 : Int8} {r : Bool} (hst : Ht w0 (frz z0 :: X) w) (f1 : Sl tlaw11Ref z0 A1 c1 p0) (hf : go_law11_PlanOf p0 p1 p2 p3 = some r) :
    Calls Try.prog 3 #[.slice A1 p0.length c1, vu8 p1, vu8 p2, vi8 p3] w fun e w' => ∃ (z' : Zp), e = .returned (vb r) ∧ Le z0 z' ∧ Ht w0 (frz z' :: X) w' := by
  refine calls_np Try.func3 rfl rfl ?_
  have hle0 := Le.refl z0
  unfold go_law11_PlanOf at hf
  refine Run.seq ?_
  refine Run.region ?_
  refine Ops.ex (Ex.assign rfl) rfl rfl rfl ?_
  refine Ops.nil ?_
  refine Run.seq ?_
  refine Run.seq ?_
  refine Run.region ?_
  obtain ⟨y5, hy5, hf⟩ := bnd hf
  refine Ops.call rfl rfl Try.func10 (by kernel_rfl) (by kernel_rfl) rfl (go_law11_awake.walk (hst := hst) (hf := hy5)) ?_
  rintro _ w5 ⟨z5, rfl, hz5, hst5⟩
  refine ⟨_, rfl, ?_⟩
  replace f1 := f1.mono hz5
  replace hle0 := hle0.trans hz5
  refine Ops.ex (Ex.not rfl) rfl rfl rfl ?_
  refine Ops.nil ?_
  refine Run.cond rfl (fun hc => ?_) (fun hc => ?_)
  · replace hf := ifFb (bn_T hc) hf
    refine Run.seq ?_
    refine Run.region ?_
    refine Ops.ex (Ex.assign rfl) rfl rfl rfl ?_
    refine Ops.nil ?_
    obtain rfl := Option.some.inj hf
    exact Run.retV [vb false] rfl ⟨rfl, trivial⟩ ⟨z5, rfl, hle0, hst5⟩
  · replace hf := ifTb (bn_F hc) hf
    refine Run.skip ?_
    refine Run.seq ?_
    refine Run.region ?_
    refine Ops.ex (Ex.move rfl) rfl rfl rfl ?_
    refine Ops.ex (Ex.move rfl) rfl rfl rfl ?_
    obtain ⟨y7, hy7, hf⟩ := bnd hf
    refine Ops.call rfl rfl Try.func11 (by kernel_rfl) (by kernel_rfl) rfl (go_law11_Set.walk (p0 := p0) (p1 := p1) (hst := hst5) (f1 := f1) (hf := hy7)) ?_
    rintro _ w7 ⟨z7, A8, c8, rfl, hz7, f8, hst7⟩
    refine ⟨_, rfl, ?_⟩
    replace f1 := f1.mono hz7
    replace hle0 := hle0.trans hz7
    refine Ops.allocF [.slice none 0 0, vi 0] hst7 zr27 rfl rfl (fun g10 w10 hst10 => ?_)
    refine Ops.store 1 [.slice A8 y7.Refs.length c8, vi y7.Floor] hst10 rfl rfl rfl rfl sz27 rfl (by simp [Value.oneCell']) (by simp) (fun w11 hst11 => ?_)
    refine Ops.nil ?_
    refine Run.seq ?_
    refine Run.region ?_
    refine Ops.ex (Ex.move rfl) rfl rfl rfl ?_
    refine Ops.ex (Ex.rem8 (a := p2) (b := 32) rfl rfl (by decide)) rfl rfl rfl ?_
    refine Ops.ex (Ex.cu8 rfl Try.underlying5 Try.underlying3) rfl rfl rfl ?_
    refine Ops.ex (Ex.move rfl) rfl rfl rfl ?_
    refine Ops.ex (Ex.ci8 rfl Try.underlying23 Try.underlying3) rfl rfl rfl ?_
    refine Ops.ex (Ex.assign rfl) rfl rfl rfl ?_
    refine Ops.ex (Ex.assign rfl) rfl rfl rfl ?_
    refine Ops.nil ?_
    refine Run.seq ?_
    refine Run.region ?_
    refine Ops.loadAgg _ rfl Try.underlying27 rfl sz27 rfl (hst11.cells (i := 1) rfl 0 2) rfl ?_
    refine Ops.ex (Ex.move rfl) rfl rfl rfl ?_
    refine Ops.ex (Ex.move rfl) rfl rfl rfl ?_
    obtain ⟨y12, hy12, hf⟩ := bnd hf
    refine Ops.call rfl rfl Try.func12 (by kernel_rfl) (by kernel_rfl) rfl (go_plan_Of.walk (p0 := y7) (p1 := ((p2 % 32).toNat : Int)) (p2 := p3.toInt) (hst := hst11) (f1 := f8) (hf := hy12)) ?_
    rintro _ w12 ⟨z12, A13, A14, c14, A15, c15, rfl, hz12, f13, f14, f15, hst12⟩
    refine ⟨_, rfl, ?_⟩
    replace f1 := f1.mono hz12; replace f8 := f8.mono hz12
    replace hle0 := hle0.trans hz12
    refine Ops.ex (Ex.move rfl) rfl rfl rfl ?_
    refine Ops.ex (Ex.extract rfl rfl) rfl rfl rfl ?_
    refine Ops.ex (Ex.extract rfl rfl) rfl rfl rfl ?_
    refine Ops.allocF [.pointer none, .slice none 0 0, .slice none 0 0] hst12 zr31 rfl rfl (fun g17 w17 hst17 => ?_)
    refine Ops.store 1 [.pointer A13, .slice A14 y12.1.Deltas.length c14, .slice A15 y12.1.Parts.length c15] hst17 rfl rfl rfl rfl sz31 rfl (by simp [Value.oneCell']) (by simp) (fun w18 hst18 => ?_)
    refine Ops.ex (Ex.assign rfl) rfl rfl rfl ?_
    refine Ops.nil ?_
    refine Run.seq ?_
    refine Run.seq ?_
    have hm20 := Le.refl z12
    apply Run.jn (fun e' w' => ∃ (b22 : Bool) (z21 : Zp), go_law11_PlanOf.j1 p2 p3 y7 y12 b22 = some r ∧ e' = [(9, .pointer (some ⟨g10, 0, none⟩)), (10, vi ((p2 % 32).toNat : Int)), (11, vi p3.toInt), (12, .pointer (some ⟨g17, 0, none⟩)), (13, vi y12.2), (51, vb b22)] ∧ Le z12 z21 ∧ Le z0 z21 ∧ Ht w0 (frz z21 :: (blk g17 [.pointer A13, .slice A14 y12.1.Deltas.length c14, .slice A15 y12.1.Parts.length c15] 31) :: (blk g10 [.slice A8 y7.Refs.length c8, vi y7.Floor] 27) :: X) w')
    · intro hj19
      refine Run.region ?_
      refine Ops.ex (Ex.move rfl) rfl rfl rfl ?_
      refine Ops.ex (Ex.fieldAddr rfl Try.underlying27 rfl sz3) rfl rfl rfl ?_
      refine Ops.load rfl Try.underlying3 rfl (hst18.cell (i := 2) rfl rfl) rfl ?_
      refine Ops.ex (Ex.lss rfl rfl) rfl rfl rfl ?_
      refine Ops.ex (Ex.move rfl) rfl rfl rfl ?_
      refine Ops.case 47 rfl (fun hc => ?_) (fun hc => ?_)
      · replace hf := ifT (dec_T hc) hf
        refine Ops.off rfl rfl ?_
        refine Ops.off rfl rfl ?_
        refine Ops.off rfl rfl ?_
        refine Ops.ex (Ex.pickT rfl rfl) rfl rfl rfl ?_
        refine Ops.nil ?_
        exact Run.sub (by exact subB_spec ⟨rfl, rfl, rfl, rfl, rfl, rfl, trivial⟩) (hj19 _ _ ⟨true, z12, hf, rfl, hm20, hle0, hst18⟩)
      · replace hf := ifF (dec_F hc) hf
        refine Ops.on rfl ?_
        refine Ops.ex (Ex.move rfl) rfl rfl rfl ?_
        refine Ops.on rfl ?_
        refine Ops.ex (Ex.move rfl) rfl rfl rfl ?_
        refine Ops.on rfl ?_
        refine Ops.ex (Ex.gtr rfl rfl) rfl rfl rfl ?_
        refine Ops.ex (Ex.pickF rfl rfl) rfl rfl rfl ?_
        refine Ops.nil ?_
        exact Run.sub (by exact subB_spec ⟨rfl, rfl, rfl, rfl, rfl, rfl, trivial⟩) (hj19 _ _ ⟨decide (((p2 % 32).toNat : Int) < p3.toInt), z12, hf, rfl, hm20, hle0, hst18⟩)
    · rintro e' w23 ⟨b22, z21, hf, rfl, hz23, hy23_0, hst23⟩
      replace f13 := f13.mono hz23; replace f14 := f14.mono hz23; replace f15 := f15.mono hz23; replace f8 := f8.mono hz23
      unfold go_law11_PlanOf.j1 at hf
      refine Run.cond rfl (fun hc => ?_) (fun hc => ?_)
      · replace hf := ifTb hc hf
        refine Run.seq ?_
        refine Run.region ?_
        refine Ops.ex (Ex.move rfl) rfl rfl rfl ?_
        refine Ops.ex (Ex.eqlI rfl rfl) rfl rfl rfl ?_
        refine Ops.ex (Ex.move rfl) rfl rfl rfl ?_
        refine Ops.case 54 rfl (fun hc => ?_) (fun hc => ?_)
        · replace hf := ifT (dec_T hc) hf
          refine Ops.on rfl ?_
          refine Ops.ex (Ex.fieldAddr rfl Try.underlying31 rfl sz29) rfl rfl rfl ?_
          refine Ops.on rfl ?_
          refine Ops.load rfl Try.underlying29 rfl (hst23.cell (i := 1) rfl rfl) rfl ?_
          refine Ops.on rfl ?_
          refine Ops.ex (Ex.eqlP f13 rfl rfl Try.underlying29) rfl rfl rfl ?_
          refine Ops.ex (Ex.pickT rfl rfl) rfl rfl rfl ?_
          refine Ops.ex (Ex.move rfl) rfl rfl rfl ?_
          refine Ops.case 59 rfl (fun hc => ?_) (fun hc => ?_)
          · replace hf := ifT (dec_T hc) hf
            refine Ops.on rfl ?_
            refine Ops.ex (Ex.fieldAddr rfl Try.underlying31 rfl sz25) rfl rfl rfl ?_
            refine Ops.on rfl ?_
            refine Ops.load rfl Try.underlying25 rfl (hst23.cell (i := 1) rfl rfl) rfl ?_
            refine Ops.on rfl ?_
            refine Ops.ex (Ex.len' rfl rfl rfl Try.underlying25) rfl rfl rfl ?_
            refine Ops.on rfl ?_
            refine Ops.ex (Ex.eqlI rfl rfl) rfl rfl rfl ?_
            refine Ops.ex (Ex.pickT rfl rfl) rfl rfl rfl ?_
            refine Ops.ex (Ex.move rfl) rfl rfl rfl ?_
            refine Ops.case 65 rfl (fun hc => ?_) (fun hc => ?_)
            · replace hf := ifT (dec_T hc) hf
              refine Ops.on rfl ?_
              refine Ops.ex (Ex.fieldAddr rfl Try.underlying31 rfl sz25) rfl rfl rfl ?_
              refine Ops.on rfl ?_
              refine Ops.load rfl Try.underlying25 rfl (hst23.cell (i := 1) rfl rfl) rfl ?_
              refine Ops.on rfl ?_
              refine Ops.ex (Ex.len' rfl rfl rfl Try.underlying25) rfl rfl rfl ?_
              refine Ops.on rfl ?_
              refine Ops.ex (Ex.eqlI rfl rfl) rfl rfl rfl ?_
              refine Ops.ex (Ex.pickT rfl rfl) rfl rfl rfl ?_
              refine Ops.ex (Ex.assign rfl) rfl rfl rfl ?_
              refine Ops.nil ?_
              obtain rfl := Option.some.inj hf
              exact Run.retV [vb (decide ((y12.1.Parts.length : Int) = 0))] rfl ⟨rfl, trivial⟩ ⟨z21, rfl, hy23_0, (St.forget (St.forget hst23 2) 1)⟩
            · replace hf := ifF (dec_F hc) hf
              refine Ops.off rfl rfl ?_
              refine Ops.off rfl rfl ?_
              refine Ops.off rfl rfl ?_
              refine Ops.off rfl rfl ?_
              refine Ops.ex (Ex.pickF rfl rfl) rfl rfl rfl ?_
              refine Ops.ex (Ex.assign rfl) rfl rfl rfl ?_
              refine Ops.nil ?_
              obtain rfl := Option.some.inj hf
              exact Run.retV [vb false] rfl ⟨rfl, trivial⟩ ⟨z21, rfl, hy23_0, (St.forget (St.forget hst23 2) 1)⟩
          · replace hf := ifF (dec_F hc) hf
            refine Ops.off rfl rfl ?_
            refine Ops.off rfl rfl ?_
            refine Ops.off rfl rfl ?_
            refine Ops.off rfl rfl ?_
            refine Ops.ex (Ex.pickF rfl rfl) rfl rfl rfl ?_
            refine Ops.ex (Ex.move rfl) rfl rfl rfl ?_
            refine Ops.off rfl rfl ?_
            refine Ops.off rfl rfl ?_
            refine Ops.off rfl rfl ?_
            refine Ops.off rfl rfl ?_
            refine Ops.ex (Ex.pickF rfl rfl) rfl rfl rfl ?_
            refine Ops.ex (Ex.assign rfl) rfl rfl rfl ?_
            refine Ops.nil ?_
            obtain rfl := Option.some.inj hf
            exact Run.retV [vb false] rfl ⟨rfl, trivial⟩ ⟨z21, rfl, hy23_0, (St.forget (St.forget hst23 2) 1)⟩
        · replace hf := ifF (dec_F hc) hf
          refine Ops.off rfl rfl ?_
          refine Ops.off rfl rfl ?_
          refine Ops.off rfl rfl ?_
          refine Ops.ex (Ex.pickF rfl rfl) rfl rfl rfl ?_
          refine Ops.ex (Ex.move rfl) rfl rfl rfl ?_
          refine Ops.off rfl rfl ?_
          refine Ops.off rfl rfl ?_
          refine Ops.off rfl rfl ?_
          refine Ops.off rfl rfl ?_
          refine Ops.ex (Ex.pickF rfl rfl) rfl rfl rfl ?_
          refine Ops.ex (Ex.move rfl) rfl rfl rfl ?_
          refine Ops.off rfl rfl ?_
          refine Ops.off rfl rfl ?_
          refine Ops.off rfl rfl ?_
          refine Ops.off rfl rfl ?_
          refine Ops.ex (Ex.pickF rfl rfl) rfl rfl rfl ?_
          refine Ops.ex (Ex.assign rfl) rfl rfl rfl ?_
          refine Ops.nil ?_
          obtain rfl := Option.some.inj hf
          exact Run.retV [vb false] rfl ⟨rfl, trivial⟩ ⟨z21, rfl, hy23_0, (St.forget (St.forget hst23 2) 1)⟩
      · replace hf := ifFb hc hf
        refine Run.skip ?_
        refine Run.seq ?_
        refine Run.region ?_
        refine Ops.loadAgg _ rfl Try.underlying27 rfl sz27 rfl (hst23.cells (i := 2) rfl 0 2) rfl ?_
        refine Ops.ex (Ex.move rfl) rfl rfl rfl ?_
        obtain ⟨y24, hy24, hf⟩ := bnd hf
        refine Ops.call rfl rfl Try.func13 (by kernel_rfl) (by kernel_rfl) rfl (go_law11_full.walk (p0 := y7) (p1 := p3.toInt) (hst := hst23) (f1 := f8) (hf := hy24)) ?_
        rintro _ w24 ⟨z24, rfl, hz24, hst24⟩
        refine ⟨_, rfl, ?_⟩
        replace f8 := f8.mono hz24; replace f13 := f13.mono hz24; replace f14 := f14.mono hz24; replace f15 := f15.mono hz24
        replace hy23_0 := hy23_0.trans hz24
        replace hz23 := hz23.trans hz24
        refine Ops.ex (Ex.move rfl) rfl rfl rfl ?_
        refine Ops.ex (Ex.extract rfl rfl) rfl rfl rfl ?_
        refine Ops.ex (Ex.extract rfl rfl) rfl rfl rfl ?_
        refine Ops.allocF [vs [], vi 0, vi 0, vi 0] hst24 zr37 rfl rfl (fun g30 w30 hst30 => ?_)
        refine Ops.store 1 [vs y24.1.Name, vi y24.1.Kind, vi y24.1.From, vi y24.1.To] hst30 rfl rfl rfl rfl sz37 rfl (by simp [Value.oneCell']) (by simp) (fun w31 hst31 => ?_)
        refine Ops.ex (Ex.assign rfl) rfl rfl rfl ?_
        refine Ops.nil ?_
        refine Run.seq ?_
        refine Run.region ?_
        refine Ops.ex (Ex.move rfl) rfl rfl rfl ?_
        refine Ops.ex (Ex.geq rfl rfl) rfl rfl rfl ?_
        refine Ops.ex (Ex.assign rfl) rfl rfl rfl ?_
        refine Ops.nil ?_
        refine Run.seq ?_
        refine Run.region ?_
        refine Ops.ex (Ex.move rfl) rfl rfl rfl ?_
        refine Ops.ex (Ex.max2 rfl rfl rfl) rfl rfl rfl ?_
        refine Ops.ex (Ex.assign rfl) rfl rfl rfl ?_
        refine Ops.nil ?_
        refine Run.seq ?_
        refine Run.region ?_
        refine Ops.ex (Ex.assign rfl) rfl rfl rfl ?_
        refine Ops.ex (Ex.assign rfl) rfl rfl rfl ?_
        refine Ops.nil ?_
        refine Run.seq ?_
        refine Run.block ?_
        have hm33 := Le.refl z24
        have hst1067 := hst31.row0 37 4
        refine Run.sub (e' := [(9, .pointer (some ⟨g10, 0, none⟩)), (10, vi ((p2 % 32).toNat : Int)), (11, vi p3.toInt), (12, .pointer (some ⟨g17, 0, none⟩)), (13, vi y12.2), (14, .pointer (some ⟨g30, 0, none⟩)), (15, vi (max y24.2 0)), (16, vb (decide (0 ≤ y24.2))), (17, .slice none 0 0), (18, .slice none 0 0)]) (subB_spec ⟨rfl, rfl, rfl, rfl, rfl, rfl, rfl, rfl, rfl, rfl, trivial⟩) ?_
        refine Run.loop (fun mb32 => (fun e' w' => ∃ (x1065 : Int) (l1066 : List apiRef) (A1066 : Option Addr) (c1066 : Nat) (d1066 : List Value) (z1064 : Zp), loopF (go_law11_PlanOf.b1 p2 p3 y7 y12 y24) mb32 (x1065, l1066) = some r ∧ e' = [(9, .pointer (some ⟨g10, 0, none⟩)), (10, vi ((p2 % 32).toNat : Int)), (11, vi p3.toInt), (12, .pointer (some ⟨g17, 0, none⟩)), (13, vi y12.2), (14, .pointer (some ⟨g30, 0, none⟩)), (15, vi x1065), (16, vb (decide (0 ≤ y24.2))), (17, .slice A1066 l1066.length c1066), (18, .slice none 0 0)] ∧ Le z24 z1064 ∧ Le z0 z1064 ∧ Le z12 z1064 ∧ Cs tapiRef z1064 d1066 l1066 ∧ Ht w0 (frz z1064 :: (orow 37 4 (.slice A1066 l1066.length c1066) l1066.length d1066) :: (blk g30 [vs y24.1.Name, vi y24.1.Kind, vi y24.1.From, vi y24.1.To] 37) :: (blk g17 [.pointer A13, .slice A14 y12.1.Deltas.length c14, .slice A15 y12.1.Parts.length c15] 31) :: (blk g10 [.slice A8 y7.Refs.length c8, vi y7.Floor] 27) :: X) w')) fuel ⟨max y24.2 0, [], none, 0, [], z24, hf, rfl, hm33, hy23_0, hz23, (Cs.nil _ _), hst1067⟩ ?_
        rintro mb32 e' w1069 ⟨x1065, l1066, A1066, c1066, d1066, z1064, hf, rfl, hz1069, hy1069_0, hy1069_1, f1066, hst1069⟩
        replace f13 := f13.mono hz1069; replace f14 := f14.mono hz1069; replace f15 := f15.mono hz1069; replace f8 := f8.mono hz1069
        obtain ⟨mb32', nxb32, rfl, hnxb32, hf⟩ := loopF_in hf
        unfold go_law11_PlanOf.b1 at hf
        try dsimp only at hf
        refine Run.block ?_
        refine Run.seq ?_
        refine Run.region ?_
        refine Ops.ex (Ex.assign rfl) rfl rfl rfl ?_
        refine Ops.nil ?_
        refine Run.seq ?_
        refine Run.region ?_
        refine Ops.loadAgg _ rfl Try.underlying27 rfl sz27 rfl (hst1069.cells (i := 4) rfl 0 2) rfl ?_
        obtain ⟨y1070, hy1070, hf⟩ := bnd hf
        refine Ops.call rfl rfl Try.func14 (by kernel_rfl) (by kernel_rfl) rfl (go_law11_of.walk (p0 := y7) (p1 := 1) (hst := hst1069) (f1 := f8) (hf := hy1070)) ?_
        rintro _ w1070 ⟨z1070, A1071, c1071, rfl, hz1070, f1071, hst1070⟩
        refine ⟨_, rfl, ?_⟩
        replace f8 := f8.mono hz1070; replace f1066 := f1066.mono hz1070; replace f13 := f13.mono hz1070; replace f14 := f14.mono hz1070; replace f15 := f15.mono hz1070
        replace hy1069_0 := hy1069_0.trans hz1070
        replace hy1069_1 := hy1069_1.trans hz1070
        replace hz1069 := hz1069.trans hz1070
        refine Ops.ex (Ex.assign rfl) rfl rfl rfl ?_
        refine Ops.nil ?_
        refine Run.seq ?_
        refine Run.seq ?_
        refine Run.region ?_
        refine Ops.ex (Ex.move rfl) rfl rfl rfl ?_
        refine Ops.ex (Ex.len' rfl rfl rfl Try.underlying25) rfl rfl rfl ?_
        refine Ops.ex (Ex.sub rfl rfl) rfl rfl rfl ?_
        refine Ops.ex (Ex.assign rfl) rfl rfl rfl ?_
        refine Ops.nil ?_
        refine Run.block ?_
        have hm1073 := Le.refl z1070
        refine Run.sub (e' := [(9, .pointer (some ⟨g10, 0, none⟩)), (10, vi ((p2 % 32).toNat : Int)), (11, vi p3.toInt), (12, .pointer (some ⟨g17, 0, none⟩)), (13, vi y12.2), (14, .pointer (some ⟨g30, 0, none⟩)), (15, vi x1065), (16, vb (decide (0 ≤ y24.2))), (17, .slice A1066 l1066.length c1066), (18, .slice none 0 0), (19, vi (-1)), (20, .slice A1071 y1070.length c1071), (21, vi (wr ((y1070.length : Int) - 1)))]) (subB_spec ⟨rfl, rfl, rfl, rfl, rfl, rfl, rfl, rfl, rfl, rfl, rfl, rfl, rfl, trivial⟩) ?_
        refine Run.loop (fun mb1072 => (fun e' w' => ∃ (x1423 : Int) (x1424 : Int) (z1422 : Zp), loopF (go_law11_PlanOf.b2 p2 p3 y7 y12 y24 x1065 l1066 nxb32 y1070) mb1072 (x1423, x1424) = some r ∧ e' = [(9, .pointer (some ⟨g10, 0, none⟩)), (10, vi ((p2 % 32).toNat : Int)), (11, vi p3.toInt), (12, .pointer (some ⟨g17, 0, none⟩)), (13, vi y12.2), (14, .pointer (some ⟨g30, 0, none⟩)), (15, vi x1065), (16, vb (decide (0 ≤ y24.2))), (17, .slice A1066 l1066.length c1066), (18, .slice none 0 0), (19, vi x1423), (20, .slice A1071 y1070.length c1071), (21, vi x1424)] ∧ Le z1070 z1422 ∧ Le z0 z1422 ∧ Le z12 z1422 ∧ Le z24 z1422 ∧ Ht w0 (frz z1422 :: (orow 37 4 (.slice A1066 l1066.length c1066) l1066.length d1066) :: (blk g30 [vs y24.1.Name, vi y24.1.Kind, vi y24.1.From, vi y24.1.To] 37) :: (blk g17 [.pointer A13, .slice A14 y12.1.Deltas.length c14, .slice A15 y12.1.Parts.length c15] 31) :: (blk g10 [.slice A8 y7.Refs.length c8, vi y7.Floor] 27) :: X) w')) fuel ⟨(-1), wr ((y1070.length : Int) - 1), z1070, hf, rfl, hm1073, hy1069_0, hy1069_1, hz1069, hst1070⟩ ?_
        rintro mb1072 e' w1425 ⟨x1423, x1424, z1422, hf, rfl, hz1425, hy1425_0, hy1425_1, hy1425_2, hst1425⟩
        replace f1071 := f1071.mono hz1425; replace f1066 := f1066.mono hz1425; replace f13 := f13.mono hz1425; replace f14 := f14.mono hz1425; replace f15 := f15.mono hz1425; replace f8 := f8.mono hz1425
        obtain ⟨mb1072', nxb1072, rfl, hnxb1072, hf⟩ := loopF_in hf
        unfold go_law11_PlanOf.b2 at hf
        try dsimp only at hf
        refine Run.seq ?_
        refine Run.seq ?_
        refine Run.region ?_
        refine Ops.ex (Ex.move rfl) rfl rfl rfl ?_
        refine Ops.ex (Ex.geq rfl rfl) rfl rfl rfl ?_
        refine Ops.nil ?_
        refine Run.cond rfl (fun hc => ?_) (fun hc => ?_)
        · replace hf := ifT (dec_T hc) hf
          refine Run.skip ?_
          refine Run.seq ?_
          refine Run.block ?_
          refine Run.seq ?_
          refine Run.region ?_
          refine Ops.ex (Ex.move rfl) rfl rfl rfl ?_
          refine Ops.ex (Ex.move rfl) rfl rfl rfl ?_
          obtain ⟨y1426, hy1426, hf⟩ := bnd hf
          obtain ⟨g1431, p1431, o1431, cs1431, hA1431, ho1431, hr1431, f1431⟩ := SlH.elem f1071.toH hy1426
          obtain rfl := hr1431
          refine Ops.ex (Ex.ixA hA1431 ho1431 hy1426 rfl rfl rfl Try.underlying25 sz37) rfl rfl rfl ?_
          refine Ops.ex (Ex.fieldAddr rfl Try.underlying37 rfl sz3) rfl rfl rfl ?_
          refine Ops.load rfl Try.underlying3 rfl ((f1431.mono hst1425.le) 2 _ rfl) rfl ?_
          refine Ops.ex (Ex.move rfl) rfl rfl rfl ?_
          refine Ops.ex (Ex.eqlI rfl rfl) rfl rfl rfl ?_
          refine Ops.ex (Ex.move rfl) rfl rfl rfl ?_
          refine Ops.case 97 rfl (fun hc => ?_) (fun hc => ?_)
          · replace hf := ifT (dec_T hc) hf
            refine Ops.on rfl ?_
            refine Ops.ex (Ex.move rfl) rfl rfl rfl ?_
            refine Ops.on rfl ?_
            refine Ops.ex (Ex.move rfl) rfl rfl rfl ?_
            refine Ops.on rfl ?_
            obtain ⟨g1436, p1436, o1436, cs1436, hA1436, ho1436, hr1436, f1436⟩ := SlH.elem f1071.toH hy1426
            obtain rfl := hr1436
            refine Ops.ex (Ex.ixA hA1436 ho1436 hy1426 rfl rfl rfl Try.underlying25 sz37) rfl rfl rfl ?_
            refine Ops.on rfl ?_
            refine Ops.ex (Ex.fieldAddr rfl Try.underlying37 rfl sz3) rfl rfl rfl ?_
            refine Ops.on rfl ?_
            refine Ops.load rfl Try.underlying3 rfl ((f1436.mono hst1425.le) 3 _ rfl) rfl ?_
            refine Ops.on rfl ?_
            refine Ops.ex (Ex.move rfl) rfl rfl rfl ?_
            refine Ops.on rfl ?_
            refine Ops.ex (Ex.gtr rfl rfl) rfl rfl rfl ?_
            refine Ops.ex (Ex.pickT rfl rfl) rfl rfl rfl ?_
            refine Ops.ex (Ex.move rfl) rfl rfl rfl ?_
            refine Ops.case 106 rfl (fun hc => ?_) (fun hc => ?_)
            · replace hf := ifT (dec_T hc) hf
              refine Ops.on rfl ?_
              refine Ops.ex (Ex.move rfl) rfl rfl rfl ?_
              refine Ops.on rfl ?_
              refine Ops.ex (Ex.move rfl) rfl rfl rfl ?_
              refine Ops.on rfl ?_
              obtain ⟨g1441, p1441, o1441, cs1441, hA1441, ho1441, hr1441, f1441⟩ := SlH.elem f1071.toH hy1426
              obtain rfl := hr1441
              refine Ops.ex (Ex.ixA hA1441 ho1441 hy1426 rfl rfl rfl Try.underlying25 sz37) rfl rfl rfl ?_
              refine Ops.on rfl ?_
              refine Ops.ex (Ex.fieldAddr rfl Try.underlying37 rfl sz3) rfl rfl rfl ?_
              refine Ops.on rfl ?_
              refine Ops.load rfl Try.underlying3 rfl ((f1441.mono hst1425.le) 3 _ rfl) rfl ?_
              refine Ops.on rfl ?_
              refine Ops.ex (Ex.move rfl) rfl rfl rfl ?_
              refine Ops.on rfl ?_
              refine Ops.ex (Ex.leq rfl rfl) rfl rfl rfl ?_
              refine Ops.ex (Ex.pickT rfl rfl) rfl rfl rfl ?_
              refine Ops.nil ?_
              refine Run.cond rfl (fun hc => ?_) (fun hc => ?_)
              · replace hf := ifT (dec_T hc) hf
                refine Run.region ?_
                refine Ops.ex (Ex.move rfl) rfl rfl rfl ?_
                refine Ops.ex (Ex.assign rfl) rfl rfl rfl ?_
                refine Ops.nil ?_
                refine Run.endBlk ?_
                refine Run.region ?_
                refine Ops.ex (Ex.move rfl) rfl rfl rfl ?_
                refine Ops.ex (Ex.sub rfl rfl) rfl rfl rfl ?_
                refine Ops.ex (Ex.assign rfl) rfl rfl rfl ?_
                refine Ops.nil ?_
                exact Run.sub (by exact subB_spec ⟨rfl, rfl, rfl, rfl, rfl, rfl, rfl, rfl, rfl, rfl, rfl, rfl, rfl, trivial⟩) (Run.stop ⟨mb1072', Nat.lt_succ_self _, x1424, wr (x1424 - 1), z1422, (hnxb1072 _).symm.trans hf, rfl, hz1425, hy1425_0, hy1425_1, hy1425_2, hst1425⟩)
              · replace hf := ifF (dec_F hc) hf
                refine Run.skip ?_
                refine Run.endBlk ?_
                refine Run.region ?_
                refine Ops.ex (Ex.move rfl) rfl rfl rfl ?_
                refine Ops.ex (Ex.sub rfl rfl) rfl rfl rfl ?_
                refine Ops.ex (Ex.assign rfl) rfl rfl rfl ?_
                refine Ops.nil ?_
                exact Run.sub (by exact subB_spec ⟨rfl, rfl, rfl, rfl, rfl, rfl, rfl, rfl, rfl, rfl, rfl, rfl, rfl, trivial⟩) (Run.stop ⟨mb1072', Nat.lt_succ_self _, x1423, wr (x1424 - 1), z1422, (hnxb1072 _).symm.trans hf, rfl, hz1425, hy1425_0, hy1425_1, hy1425_2, hst1425⟩)
            · replace hf := ifF (dec_F hc) hf
              refine Ops.off rfl rfl ?_
              refine Ops.off rfl rfl ?_
              refine Ops.off rfl rfl ?_
              refine Ops.off rfl rfl ?_
              refine Ops.off rfl rfl ?_
              refine Ops.off rfl rfl ?_
              refine Ops.off rfl rfl ?_
              refine Ops.ex (Ex.pickF rfl rfl) rfl rfl rfl ?_
              refine Ops.nil ?_
              refine Run.condF rfl rfl ?_
              refine Run.skip ?_
              refine Run.endBlk ?_
              refine Run.region ?_
              refine Ops.ex (Ex.move rfl) rfl rfl rfl ?_
              refine Ops.ex (Ex.sub rfl rfl) rfl rfl rfl ?_
              refine Ops.ex (Ex.assign rfl) rfl rfl rfl ?_
              refine Ops.nil ?_
              exact Run.sub (by exact subB_spec ⟨rfl, rfl, rfl, rfl, rfl, rfl, rfl, rfl, rfl, rfl, rfl, rfl, rfl, trivial⟩) (Run.stop ⟨mb1072', Nat.lt_succ_self _, x1423, wr (x1424 - 1), z1422, (hnxb1072 _).symm.trans hf, rfl, hz1425, hy1425_0, hy1425_1, hy1425_2, hst1425⟩)
          · replace hf := ifF (dec_F hc) hf
            refine Ops.off rfl rfl ?_
            refine Ops.off rfl rfl ?_
            refine Ops.off rfl rfl ?_
            refine Ops.off rfl rfl ?_
            refine Ops.off rfl rfl ?_
            refine Ops.off rfl rfl ?_
            refine Ops.off rfl rfl ?_
            refine Ops.ex (Ex.pickF rfl rfl) rfl rfl rfl ?_
            refine Ops.ex (Ex.move rfl) rfl rfl rfl ?_
            refine Ops.off rfl rfl ?_
            refine Ops.off rfl rfl ?_
            refine Ops.off rfl rfl ?_
            refine Ops.off rfl rfl ?_
            refine Ops.off rfl rfl ?_
            refine Ops.off rfl rfl ?_
            refine Ops.off rfl rfl ?_
            refine Ops.ex (Ex.pickF rfl rfl) rfl rfl rfl ?_
            refine Ops.nil ?_
            refine Run.condF rfl rfl ?_
            refine Run.skip ?_
            refine Run.endBlk ?_
            refine Run.region ?_
            refine Ops.ex (Ex.move rfl) rfl rfl rfl ?_
            refine Ops.ex (Ex.sub rfl rfl) rfl rfl rfl ?_
            refine Ops.ex (Ex.assign rfl) rfl rfl rfl ?_
            refine Ops.nil ?_
            exact Run.sub (by exact subB_spec ⟨rfl, rfl, rfl, rfl, rfl, rfl, rfl, rfl, rfl, rfl, rfl, rfl, rfl, trivial⟩) (Run.stop ⟨mb1072', Nat.lt_succ_self _, x1423, wr (x1424 - 1), z1422, (hnxb1072 _).symm.trans hf, rfl, hz1425, hy1425_0, hy1425_1, hy1425_2, hst1425⟩)
        · replace hf := ifF (dec_F hc) hf
          refine Run.exit _ rfl ?_
          refine Run.seq ?_
          refine Run.seq ?_
          refine Run.region ?_
          refine Ops.ex (Ex.move rfl) rfl rfl rfl ?_
          refine Ops.ex (Ex.lss rfl rfl) rfl rfl rfl ?_
          refine Ops.nil ?_
          refine Run.cond rfl (fun hc => ?_) (fun hc => ?_)
          · replace hf := ifT (dec_T hc) hf
            refine Run.exit _ rfl ?_
            refine Run.seq ?_
            refine Run.region ?_
            refine Ops.loadAgg _ rfl Try.underlying27 rfl sz27 rfl (hst1425.cells (i := 4) rfl 0 2) rfl ?_
            obtain ⟨y1442, hy1442, hf⟩ := bnd hf
            refine Ops.call rfl rfl Try.func14 (by kernel_rfl) (by kernel_rfl) rfl (go_law11_of.walk (p0 := y7) (p1 := 2) (hst := hst1425) (f1 := f8) (hf := hy1442)) ?_
            rintro _ w1442 ⟨z1442, A1443, c1443, rfl, hz1442, f1443, hst1442⟩
            refine ⟨_, rfl, ?_⟩
            replace f1071 := f1071.mono hz1442; replace f8 := f8.mono hz1442; replace f1066 := f1066.mono hz1442; replace f13 := f13.mono hz1442; replace f14 := f14.mono hz1442; replace f15 := f15.mono hz1442
            replace hy1425_0 := hy1425_0.trans hz1442
            replace hy1425_1 := hy1425_1.trans hz1442
            replace hy1425_2 := hy1425_2.trans hz1442
            replace hz1425 := hz1425.trans hz1442
            refine Ops.ex (Ex.assign rfl) rfl rfl rfl ?_
            refine Ops.nil ?_
            refine Run.seq ?_
            refine Run.seq ?_
            refine Run.region ?_
            refine Ops.ex (Ex.move rfl) rfl rfl rfl ?_
            refine Ops.ex (Ex.len' rfl rfl rfl Try.underlying25) rfl rfl rfl ?_
            refine Ops.ex (Ex.move rfl) rfl rfl rfl ?_
            refine Ops.nil ?_
            refine Run.block ?_
            have hc1444 := f1443.cap
            have hm1445 := Le.refl z1442
            have hst1537 := hst1442.row0 37 4
            refine Run.sub (e' := [(10, vi ((p2 % 32).toNat : Int)), (11, vi p3.toInt), (12, .pointer (some ⟨g17, 0, none⟩)), (13, vi y12.2), (14, .pointer (some ⟨g30, 0, none⟩)), (15, vi x1065), (16, vb (decide (0 ≤ y24.2))), (17, .slice A1066 l1066.length c1066), (18, .slice none 0 0), (22, .slice A1443 y1442.length c1443), (132, .slice A1443 y1442.length c1443), (133, vi (y1442.length : Int)), (134, vi ((0 : Nat) : Int))]) (subB_spec ⟨rfl, rfl, rfl, rfl, rfl, rfl, rfl, rfl, rfl, rfl, rfl, rfl, rfl, trivial⟩) ?_
            refine Run.loop (fun mb1444 => (fun e' w' => ∃ (i1444 : Nat) (x1535 : Int) (l1536 : List apiRef) (A1536 : Option Addr) (c1536 : Nat) (d1536 : List Value) (z1534 : Zp), mb1444 = y1442.length - i1444 ∧ i1444 ≤ y1442.length ∧ forL (go_law11_PlanOf.b3 p2 p3 y1442) (fun (x1535, l1536) => if x1535 < p3.toInt then (if y12.2 = 9 then (if y12.1.Full = none then (some (decide ((y12.1.Deltas.length : Int) = 0))) else (some false)) else (some false)) else (if y12.2 = 0 then (if (!(decide (y12.1.Full = none))) = (decide (0 ≤ y24.2)) then (if 0 ≤ y24.2 then ((y12.1.Full).bind fun y1569 => if y1569 = y24.1 then ((go_law11_refs y12.1.Deltas l1066).bind fun y1574 => if y1574 then ((go_law11_refs y12.1.Parts l1536).bind fun y1578 => some y1578) else (some false)) else (some false)) else ((go_law11_refs y12.1.Deltas l1066).bind fun y1561 => if y1561 then ((go_law11_refs y12.1.Parts l1536).bind fun y1565 => some y1565) else (some false))) else (some false)) else (some false))) i1444 (y1442.drop i1444) (x1535, l1536) = some r ∧ e' = [(10, vi ((p2 % 32).toNat : Int)), (11, vi p3.toInt), (12, .pointer (some ⟨g17, 0, none⟩)), (13, vi y12.2), (14, .pointer (some ⟨g30, 0, none⟩)), (15, vi x1535), (16, vb (decide (0 ≤ y24.2))), (17, .slice A1066 l1066.length c1066), (18, .slice A1536 l1536.length c1536), (22, .slice A1443 y1442.length c1443), (132, .slice A1443 y1442.length c1443), (133, vi (y1442.length : Int)), (134, vi (i1444 : Int))] ∧ Le z1442 z1534 ∧ Le z0 z1534 ∧ Le z12 z1534 ∧ Le z24 z1534 ∧ Le z1070 z1534 ∧ Cs tapiRef z1534 d1536 l1536 ∧ Ht w0 (frz z1534 :: (orow 37 4 (.slice A1536 l1536.length c1536) l1536.length d1536) :: (orow 37 4 (.slice A1066 l1066.length c1066) l1066.length d1066) :: (blk g30 [vs y24.1.Name, vi y24.1.Kind, vi y24.1.From, vi y24.1.To] 37) :: (blk g17 [.pointer A13, .slice A14 y12.1.Deltas.length c14, .slice A15 y12.1.Parts.length c15] 31) :: X) w')) y1442.length ⟨0, x1065, [], none, 0, [], z1442, rfl, Nat.zero_le _, hf, rfl, hm1445, hy1425_0, hy1425_1, hy1425_2, hz1425, (Cs.nil _ _), (St.forget hst1537 5)⟩ ?_
            rintro _ e' w1539 ⟨i1444, x1535, l1536, A1536, c1536, d1536, z1534, rfl, hi1444, hf, rfl, hz1539, hy1539_0, hy1539_1, hy1539_2, hy1539_3, f1536, hst1539⟩
            replace f1443 := f1443.mono hz1539; replace f1066 := f1066.mono hz1539; replace f13 := f13.mono hz1539; replace f14 := f14.mono hz1539; replace f15 := f15.mono hz1539
            refine Run.seq ?_
            refine Run.region ?_
            refine Ops.ex (Ex.lss rfl rfl) rfl rfl rfl ?_
            refine Ops.nil ?_
            refine Run.seq ?_
            refine Run.cond rfl (fun hc => ?_) (fun hc => ?_)
            · have hl1444 := lt_of_dec hc
              obtain ⟨a1444, nxb1444, ha1444, hnxb1444, hf⟩ := forL_in hf hl1444
              unfold go_law11_PlanOf.b3 at hf
              try dsimp only at hf
              refine Run.skip ?_
              refine Run.seq ?_
              refine Run.block ?_
              refine Run.seq ?_
              refine Run.region ?_
              refine Ops.ex (Ex.move rfl) rfl rfl rfl ?_
              obtain ⟨g1544, p1544, o1544, cs1544, hA1544, ho1544, hr1544, f1544⟩ := SlH.elem f1443.toH (atI_nat ha1444)
              obtain rfl := hr1544
              refine Ops.ex (Ex.ixA hA1544 ho1544 (atI_nat ha1444) rfl rfl rfl Try.underlying25 sz37) rfl rfl rfl ?_
              refine Ops.loadAgg [vs a1444.Name, vi a1444.Kind, vi a1444.From, vi a1444.To] rfl Try.underlying37 rfl sz37 rfl (cells_of_zc rfl (f1544.mono hst1539.le)) rfl ?_
              refine Ops.allocF [vs [], vi 0, vi 0, vi 0] hst1539 zr37 rfl rfl (fun g1545 w1545 hst1545 => ?_)
              refine Ops.ex (Ex.assign rfl) rfl rfl rfl ?_
              refine Ops.store 1 [vs a1444.Name, vi a1444.Kind, vi a1444.From, vi a1444.To] hst1545 rfl rfl rfl rfl sz37 rfl (by simp [Value.oneCell']) (by simp) (fun w1546 hst1546 => ?_)
              refine Ops.nil ?_
              refine Run.seq ?_
              refine Run.region ?_
              refine Ops.ex (Ex.fieldAddr rfl Try.underlying37 rfl sz3) rfl rfl rfl ?_
              refine Ops.load rfl Try.underlying3 rfl (hst1546.cell (i := 1) rfl rfl) rfl ?_
              refine Ops.ex (Ex.assign rfl) rfl rfl rfl ?_
              refine Ops.nil ?_
              refine Run.seq ?_
              refine Run.seq ?_
              have hm1548 := Le.refl z1534
              apply Run.jn (fun e' w' => ∃ (b1550 : Bool) (z1549 : Zp), go_law11_PlanOf.j2 p2 p3 x1535 l1536 a1444 nxb1444 b1550 = some r ∧ e' = [(10, vi ((p2 % 32).toNat : Int)), (11, vi p3.toInt), (12, .pointer (some ⟨g17, 0, none⟩)), (13, vi y12.2), (14, .pointer (some ⟨g30, 0, none⟩)), (15, vi x1535), (16, vb (decide (0 ≤ y24.2))), (17, .slice A1066 l1066.length c1066), (18, .slice A1536 l1536.length c1536), (22, .slice A1443 y1442.length c1443), (24, .pointer (some ⟨g1545, 0, none⟩)), (25, vi a1444.To), (132, .slice A1443 y1442.length c1443), (133, vi (y1442.length : Int)), (134, vi (i1444 : Int)), (150, vb b1550)] ∧ Le z1534 z1549 ∧ Le z0 z1549 ∧ Le z12 z1549 ∧ Le z24 z1549 ∧ Le z1070 z1549 ∧ Le z1442 z1549 ∧ Ht w0 (frz z1549 :: (blk g1545 [vs a1444.Name, vi a1444.Kind, vi a1444.From, vi a1444.To] 37) :: (orow 37 4 (.slice A1536 l1536.length c1536) l1536.length d1536) :: (orow 37 4 (.slice A1066 l1066.length c1066) l1066.length d1066) :: (blk g30 [vs y24.1.Name, vi y24.1.Kind, vi y24.1.From, vi y24.1.To] 37) :: (blk g17 [.pointer A13, .slice A14 y12.1.Deltas.length c14, .slice A15 y12.1.Parts.length c15] 31) :: X) w')
              · intro hj1547
                refine Run.region ?_
                refine Ops.ex (Ex.move rfl) rfl rfl rfl ?_
                refine Ops.ex (Ex.move rfl) rfl rfl rfl ?_
                refine Ops.ex (Ex.len' rfl rfl rfl Try.underlying25) rfl rfl rfl ?_
                refine Ops.ex (Ex.sub rfl rfl) rfl rfl rfl ?_
                refine Ops.ex (Ex.eqlI rfl rfl) rfl rfl rfl ?_
                refine Ops.ex (Ex.move rfl) rfl rfl rfl ?_
                refine Ops.case 146 rfl (fun hc => ?_) (fun hc => ?_)
                · replace hf := ifT (dec_T hc) hf
                  refine Ops.on rfl ?_
                  refine Ops.ex (Ex.move rfl) rfl rfl rfl ?_
                  refine Ops.on rfl ?_
                  refine Ops.ex (Ex.move rfl) rfl rfl rfl ?_
                  refine Ops.on rfl ?_
                  refine Ops.ex (Ex.gtr rfl rfl) rfl rfl rfl ?_
                  refine Ops.ex (Ex.pickT rfl rfl) rfl rfl rfl ?_
                  refine Ops.nil ?_
                  exact Run.sub (by exact subB_spec ⟨rfl, rfl, rfl, rfl, rfl, rfl, rfl, rfl, rfl, rfl, rfl, rfl, rfl, rfl, rfl, rfl, trivial⟩) (hj1547 _ _ ⟨decide (a1444.To < ((p2 % 32).toNat : Int)), z1534, hf, rfl, hm1548, hy1539_0, hy1539_1, hy1539_2, hy1539_3, hz1539, hst1546⟩)
                · replace hf := ifF (dec_F hc) hf
                  refine Ops.off rfl rfl ?_
                  refine Ops.off rfl rfl ?_
                  refine Ops.off rfl rfl ?_
                  refine Ops.ex (Ex.pickF rfl rfl) rfl rfl rfl ?_
                  refine Ops.nil ?_
                  exact Run.sub (by exact subB_spec ⟨rfl, rfl, rfl, rfl, rfl, rfl, rfl, rfl, rfl, rfl, rfl, rfl, rfl, rfl, rfl, rfl, trivial⟩) (hj1547 _ _ ⟨false, z1534, hf, rfl, hm1548, hy1539_0, hy1539_1, hy1539_2, hy1539_3, hz1539, hst1546⟩)
              · rintro e' w1551 ⟨b1550, z1549, hf, rfl, hz1551, hy1551_0, hy1551_1, hy1551_2, hy1551_3, hy1551_4, hst1551⟩
                replace f1443 := f1443.mono hz1551; replace f1536 := f1536.mono hz1551; replace f1066 := f1066.mono hz1551; replace f13 := f13.mono hz1551; replace f14 := f14.mono hz1551; replace f15 := f15.mono hz1551
                unfold go_law11_PlanOf.j2 at hf
                have hm1553 := Le.refl z1549
                apply Run.jn (fun e' w' => ∃ (x1555 : Int) (z1554 : Zp), go_law11_PlanOf.j3 p3 x1535 l1536 a1444 nxb1444 x1555 = some r ∧ e' = [(10, vi ((p2 % 32).toNat : Int)), (11, vi p3.toInt), (12, .pointer (some ⟨g17, 0, none⟩)), (13, vi y12.2), (14, .pointer (some ⟨g30, 0, none⟩)), (15, vi x1535), (16, vb (decide (0 ≤ y24.2))), (17, .slice A1066 l1066.length c1066), (18, .slice A1536 l1536.length c1536), (22, .slice A1443 y1442.length c1443), (24, .pointer (some ⟨g1545, 0, none⟩)), (25, vi x1555), (132, .slice A1443 y1442.length c1443), (133, vi (y1442.length : Int)), (134, vi (i1444 : Int))] ∧ Le z1549 z1554 ∧ Le z0 z1554 ∧ Le z12 z1554 ∧ Le z24 z1554 ∧ Le z1070 z1554 ∧ Le z1442 z1554 ∧ Le z1534 z1554 ∧ Ht w0 (frz z1554 :: (blk g1545 [vs a1444.Name, vi a1444.Kind, vi a1444.From, vi a1444.To] 37) :: (orow 37 4 (.slice A1536 l1536.length c1536) l1536.length d1536) :: (orow 37 4 (.slice A1066 l1066.length c1066) l1066.length d1066) :: (blk g30 [vs y24.1.Name, vi y24.1.Kind, vi y24.1.From, vi y24.1.To] 37) :: (blk g17 [.pointer A13, .slice A14 y12.1.Deltas.length c14, .slice A15 y12.1.Parts.length c15] 31) :: X) w')
                · intro hj1552
                  refine Run.cond rfl (fun hc => ?_) (fun hc => ?_)
                  · replace hf := ifTb hc hf
                    refine Run.region ?_
                    refine Ops.ex (Ex.move rfl) rfl rfl rfl ?_
                    refine Ops.ex (Ex.assign rfl) rfl rfl rfl ?_
                    refine Ops.nil ?_
                    exact Run.sub (by exact subB_spec ⟨rfl, rfl, rfl, rfl, rfl, rfl, rfl, rfl, rfl, rfl, rfl, rfl, rfl, rfl, rfl, trivial⟩) (hj1552 _ _ ⟨((p2 % 32).toNat : Int), z1549, hf, rfl, hm1553, hy1551_0, hy1551_1, hy1551_2, hy1551_3, hy1551_4, hz1551, hst1551⟩)
                  · replace hf := ifFb hc hf
                    refine Run.skip ?_
                    exact Run.sub (by exact subB_spec ⟨rfl, rfl, rfl, rfl, rfl, rfl, rfl, rfl, rfl, rfl, rfl, rfl, rfl, rfl, rfl, trivial⟩) (hj1552 _ _ ⟨a1444.To, z1549, hf, rfl, hm1553, hy1551_0, hy1551_1, hy1551_2, hy1551_3, hy1551_4, hz1551, hst1551⟩)
                · rintro e' w1556 ⟨x1555, z1554, hf, rfl, hz1556, hy1556_0, hy1556_1, hy1556_2, hy1556_3, hy1556_4, hy1556_5, hst1556⟩
                  replace f1443 := f1443.mono hz1556; replace f1536 := f1536.mono hz1556; replace f1066 := f1066.mono hz1556; replace f13 := f13.mono hz1556; replace f14 := f14.mono hz1556; replace f15 := f15.mono hz1556
                  unfold go_law11_PlanOf.j3 at hf
                  refine Run.seq ?_
                  refine Run.region ?_
                  refine Ops.ex (Ex.move rfl) rfl rfl rfl ?_
                  refine Ops.ex (Ex.move rfl) rfl rfl rfl ?_
                  refine Ops.ex (Ex.lss rfl rfl) rfl rfl rfl ?_
                  refine Ops.ex (Ex.move rfl) rfl rfl rfl ?_
                  refine Ops.case 155 rfl (fun hc => ?_) (fun hc => ?_)
                  · replace hf := ifT (dec_T hc) hf
                    refine Ops.on rfl ?_
                    refine Ops.ex (Ex.fieldAddr rfl Try.underlying37 rfl sz3) rfl rfl rfl ?_
                    refine Ops.on rfl ?_
                    refine Ops.load rfl Try.underlying3 rfl (hst1556.cell (i := 1) rfl rfl) rfl ?_
                    refine Ops.on rfl ?_
                    refine Ops.ex (Ex.move rfl) rfl rfl rfl ?_
                    refine Ops.on rfl ?_
                    refine Ops.ex (Ex.leq rfl rfl) rfl rfl rfl ?_
                    refine Ops.ex (Ex.pickT rfl rfl) rfl rfl rfl ?_
                    refine Ops.ex (Ex.move rfl) rfl rfl rfl ?_
                    refine Ops.case 161 rfl (fun hc => ?_) (fun hc => ?_)
                    · replace hf := ifT (dec_T hc) hf
                      refine Ops.on rfl ?_
                      refine Ops.ex (Ex.move rfl) rfl rfl rfl ?_
                      refine Ops.on rfl ?_
                      refine Ops.ex (Ex.move rfl) rfl rfl rfl ?_
                      refine Ops.on rfl ?_
                      refine Ops.ex (Ex.gtr rfl rfl) rfl rfl rfl ?_
                      refine Ops.ex (Ex.pickT rfl rfl) rfl rfl rfl ?_
                      refine Ops.nil ?_
                      refine Run.cond rfl (fun hc => ?_) (fun hc => ?_)
                      · replace hf := ifT (dec_T hc) hf
                        refine Run.region ?_
                        refine Ops.ex (Ex.move rfl) rfl rfl rfl ?_
                        refine Ops.loadAgg _ rfl Try.underlying37 rfl sz37 rfl (hst1556.cells (i := 1) rfl 0 4) rfl ?_
                        refine Ops.sliceF [vs a1444.Name, vi a1444.Kind, vi a1444.From, vi a1444.To] hst1556 rfl Try.underlying25 sz37 zr37 rfl rfl (by kernel_rfl) rfl (by simp [Value.oneCell']) rfl (fun A1557 w1557 hst1557 => ?_)
                        have f1557 : Cs tapiRef z1554 [vs a1444.Name, vi a1444.Kind, vi a1444.From, vi a1444.To] [a1444] := (Cs.cons (c := [vs a1444.Name, vi a1444.Kind, vi a1444.From, vi a1444.To]) rfl (Cs.nil _ _))
                        obtain ⟨l1558, hy1558, hf⟩ := bnd hf
                        refine Ops.app 3 hst1557 rfl f1536 rfl (own_slh f1557 rfl (hst1557.get (i := 1) rfl)) rfl hy1558 rfl rfl rfl rfl Try.underlying25 inf37 rfl (by decide) (by decide) rfl (fun A1558 c1558 d1558 w1558 f1558 hst1558 => ?_)
                        refine Ops.ex (Ex.move rfl) rfl rfl rfl ?_
                        refine Ops.ex (Ex.assign rfl) rfl rfl rfl ?_
                        refine Ops.ex (Ex.assign rfl) rfl rfl rfl ?_
                        refine Ops.nil ?_
                        refine Run.endBlk ?_
                        refine Run.region ?_
                        refine Ops.ex (Ex.add rfl rfl) rfl rfl rfl ?_
                        refine Ops.ex (Ex.move rfl) rfl rfl rfl ?_
                        refine Ops.nil ?_
                        refine Run.re 134 rfl (congrArg vi (wr_succ' hl1444 hc1444)) ?_
                        exact Run.sub (by exact subB_spec ⟨rfl, rfl, rfl, rfl, rfl, rfl, rfl, rfl, rfl, rfl, rfl, rfl, rfl, trivial⟩) (Run.stop ⟨y1442.length - (i1444 + 1), by omega, i1444 + 1, x1555, l1558, A1558, c1558, d1558, z1554, rfl, by omega, (hnxb1444 _).symm.trans hf, rfl, hy1556_4, hy1556_0, hy1556_1, hy1556_2, hy1556_3, f1558, (St.forget (St.forget hst1558 2) 1)⟩)
                      · replace hf := ifF (dec_F hc) hf
                        refine Run.skip ?_
                        refine Run.endBlk ?_
                        refine Run.region ?_
                        refine Ops.ex (Ex.add rfl rfl) rfl rfl rfl ?_
                        refine Ops.ex (Ex.move rfl) rfl rfl rfl ?_
                        refine Ops.nil ?_
                        refine Run.re 134 rfl (congrArg vi (wr_succ' hl1444 hc1444)) ?_
                        exact Run.sub (by exact subB_spec ⟨rfl, rfl, rfl, rfl, rfl, rfl, rfl, rfl, rfl, rfl, rfl, rfl, rfl, trivial⟩) (Run.stop ⟨y1442.length - (i1444 + 1), by omega, i1444 + 1, x1535, l1536, A1536, c1536, d1536, z1554, rfl, by omega, (hnxb1444 _).symm.trans hf, rfl, hy1556_4, hy1556_0, hy1556_1, hy1556_2, hy1556_3, f1536, (St.forget hst1556 1)⟩)
                    · replace hf := ifF (dec_F hc) hf
                      refine Ops.off rfl rfl ?_
                      refine Ops.off rfl rfl ?_
                      refine Ops.off rfl rfl ?_
                      refine Ops.ex (Ex.pickF rfl rfl) rfl rfl rfl ?_
                      refine Ops.nil ?_
                      refine Run.condF rfl rfl ?_
                      refine Run.skip ?_
                      refine Run.endBlk ?_
                      refine Run.region ?_
                      refine Ops.ex (Ex.add rfl rfl) rfl rfl rfl ?_
                      refine Ops.ex (Ex.move rfl) rfl rfl rfl ?_
                      refine Ops.nil ?_
                      refine Run.re 134 rfl (congrArg vi (wr_succ' hl1444 hc1444)) ?_
                      exact Run.sub (by exact subB_spec ⟨rfl, rfl, rfl, rfl, rfl, rfl, rfl, rfl, rfl, rfl, rfl, rfl, rfl, trivial⟩) (Run.stop ⟨y1442.length - (i1444 + 1), by omega, i1444 + 1, x1535, l1536, A1536, c1536, d1536, z1554, rfl, by omega, (hnxb1444 _).symm.trans hf, rfl, hy1556_4, hy1556_0, hy1556_1, hy1556_2, hy1556_3, f1536, (St.forget hst1556 1)⟩)
                  · replace hf := ifF (dec_F hc) hf
                    refine Ops.off rfl rfl ?_
                    refine Ops.off rfl rfl ?_
                    refine Ops.off rfl rfl ?_
                    refine Ops.off rfl rfl ?_
                    refine Ops.ex (Ex.pickF rfl rfl) rfl rfl rfl ?_
                    refine Ops.ex (Ex.move rfl) rfl rfl rfl ?_
                    refine Ops.off rfl rfl ?_
                    refine Ops.off rfl rfl ?_
                    refine Ops.off rfl rfl ?_
                    refine Ops.ex (Ex.pickF rfl rfl) rfl rfl rfl ?_
                    refine Ops.nil ?_
                    refine Run.condF rfl rfl ?_
                    refine Run.skip ?_
                    refine Run.endBlk ?_
                    refine Run.region ?_
                    refine Ops.ex (Ex.add rfl rfl) rfl rfl rfl ?_
                    refine Ops.ex (Ex.move rfl) rfl rfl rfl ?_
                    refine Ops.nil ?_
                    refine Run.re 134 rfl (congrArg vi (wr_succ' hl1444 hc1444)) ?_
                    exact Run.sub (by exact subB_spec ⟨rfl, rfl, rfl, rfl, rfl, rfl, rfl, rfl, rfl, rfl, rfl, rfl, rfl, trivial⟩) (Run.stop ⟨y1442.length - (i1444 + 1), by omega, i1444 + 1, x1535, l1536, A1536, c1536, d1536, z1554, rfl, by omega, (hnxb1444 _).symm.trans hf, rfl, hy1556_4, hy1556_0, hy1556_1, hy1556_2, hy1556_3, f1536, (St.forget hst1556 1)⟩)
            · replace hf := forL_out hf (nlt_of_dec hc)
              try dsimp only at hf
              refine Run.exit _ rfl ?_
              refine Run.seq ?_
              refine Run.seq ?_
              refine Run.region ?_
              refine Ops.ex (Ex.move rfl) rfl rfl rfl ?_
              refine Ops.ex (Ex.move rfl) rfl rfl rfl ?_
              refine Ops.ex (Ex.lss rfl rfl) rfl rfl rfl ?_
              refine Ops.nil ?_
              refine Run.cond rfl (fun hc => ?_) (fun hc => ?_)
              · replace hf := ifT (dec_T hc) hf
                refine Run.seq ?_
                refine Run.region ?_
                refine Ops.ex (Ex.move rfl) rfl rfl rfl ?_
                refine Ops.ex (Ex.eqlI rfl rfl) rfl rfl rfl ?_
                refine Ops.ex (Ex.move rfl) rfl rfl rfl ?_
                refine Ops.case 177 rfl (fun hc => ?_) (fun hc => ?_)
                · replace hf := ifT (dec_T hc) hf
                  refine Ops.on rfl ?_
                  refine Ops.ex (Ex.fieldAddr rfl Try.underlying31 rfl sz29) rfl rfl rfl ?_
                  refine Ops.on rfl ?_
                  refine Ops.load rfl Try.underlying29 rfl (hst1539.cell (i := 4) rfl rfl) rfl ?_
                  refine Ops.on rfl ?_
                  refine Ops.ex (Ex.eqlP f13 rfl rfl Try.underlying29) rfl rfl rfl ?_
                  refine Ops.ex (Ex.pickT rfl rfl) rfl rfl rfl ?_
                  refine Ops.ex (Ex.move rfl) rfl rfl rfl ?_
                  refine Ops.case 182 rfl (fun hc => ?_) (fun hc => ?_)
                  · replace hf := ifT (dec_T hc) hf
                    refine Ops.on rfl ?_
                    refine Ops.ex (Ex.fieldAddr rfl Try.underlying31 rfl sz25) rfl rfl rfl ?_
                    refine Ops.on rfl ?_
                    refine Ops.load rfl Try.underlying25 rfl (hst1539.cell (i := 4) rfl rfl) rfl ?_
                    refine Ops.on rfl ?_
                    refine Ops.ex (Ex.len' rfl rfl rfl Try.underlying25) rfl rfl rfl ?_
                    refine Ops.on rfl ?_
                    refine Ops.ex (Ex.eqlI rfl rfl) rfl rfl rfl ?_
                    refine Ops.ex (Ex.pickT rfl rfl) rfl rfl rfl ?_
                    refine Ops.ex (Ex.assign rfl) rfl rfl rfl ?_
                    refine Ops.nil ?_
                    obtain rfl := Option.some.inj hf
                    exact Run.retV [vb (decide ((y12.1.Deltas.length : Int) = 0))] rfl ⟨rfl, trivial⟩ ⟨z1534, rfl, hy1539_0, (St.forget (St.forget (St.forget (St.forget hst1539 4) 3) 2) 1)⟩
                  · replace hf := ifF (dec_F hc) hf
                    refine Ops.off rfl rfl ?_
                    refine Ops.off rfl rfl ?_
                    refine Ops.off rfl rfl ?_
                    refine Ops.off rfl rfl ?_
                    refine Ops.ex (Ex.pickF rfl rfl) rfl rfl rfl ?_
                    refine Ops.ex (Ex.assign rfl) rfl rfl rfl ?_
                    refine Ops.nil ?_
                    obtain rfl := Option.some.inj hf
                    exact Run.retV [vb false] rfl ⟨rfl, trivial⟩ ⟨z1534, rfl, hy1539_0, (St.forget (St.forget (St.forget (St.forget hst1539 4) 3) 2) 1)⟩
                · replace hf := ifF (dec_F hc) hf
                  refine Ops.off rfl rfl ?_
                  refine Ops.off rfl rfl ?_
                  refine Ops.off rfl rfl ?_
                  refine Ops.ex (Ex.pickF rfl rfl) rfl rfl rfl ?_
                  refine Ops.ex (Ex.move rfl) rfl rfl rfl ?_
                  refine Ops.off rfl rfl ?_
                  refine Ops.off rfl rfl ?_
                  refine Ops.off rfl rfl ?_
                  refine Ops.off rfl rfl ?_
                  refine Ops.ex (Ex.pickF rfl rfl) rfl rfl rfl ?_
                  refine Ops.ex (Ex.assign rfl) rfl rfl rfl ?_
                  refine Ops.nil ?_
                  obtain rfl := Option.some.inj hf
                  exact Run.retV [vb false] rfl ⟨rfl, trivial⟩ ⟨z1534, rfl, hy1539_0, (St.forget (St.forget (St.forget (St.forget hst1539 4) 3) 2) 1)⟩
              · replace hf := ifF (dec_F hc) hf
                refine Run.skip ?_
                refine Run.seq ?_
                have hm1560 := Le.refl z1534
                refine Run.drawH [([], fun w => ∃ ζ Y, Le z1534 ζ ∧ Ht w0 (frz ζ :: (blk g30 [vs y24.1.Name, vi y24.1.Kind, vi y24.1.From, vi y24.1.To] 37) :: (blk g17 [.pointer A13, .slice A14 y12.1.Deltas.length c14, .slice A15 y12.1.Parts.length c15] 31) :: Y) w), ([25, 31], fun w => ∃ ζ Y, Le z1534 ζ ∧ Ht w0 (frz ζ :: (orow 37 4 (.slice A1066 l1066.length c1066) l1066.length d1066) :: Y) w), ([31], fun w => ∃ ζ Y, Le z1534 ζ ∧ Ht w0 (frz ζ :: (orow 37 4 (.slice A1536 l1536.length c1536) l1536.length d1536) :: Y) w)] (by kernel_rfl) hst1539 (fun w1559 hst1559 => ?_)
                have hS0 := (⟨_, _, (Le.refl _), (St.up (St.up (St.up hst1559 4 rfl) 4 rfl) 2 rfl)⟩ : (fun w => ∃ ζ Y, Le z1534 ζ ∧ Ht w0 (frz ζ :: (blk g30 [vs y24.1.Name, vi y24.1.Kind, vi y24.1.From, vi y24.1.To] 37) :: (blk g17 [.pointer A13, .slice A14 y12.1.Deltas.length c14, .slice A15 y12.1.Parts.length c15] 31) :: Y) w) _)
                have hS1 := (⟨_, _, (Le.refl _), (St.up (St.up hst1559 2 rfl) 1 rfl)⟩ : (fun w => ∃ ζ Y, Le z1534 ζ ∧ Ht w0 (frz ζ :: (orow 37 4 (.slice A1066 l1066.length c1066) l1066.length d1066) :: Y) w) _)
                have hS2 := (⟨_, _, (Le.refl _), (St.up (St.up hst1559 1 rfl) 1 rfl)⟩ : (fun w => ∃ ζ Y, Le z1534 ζ ∧ Ht w0 (frz ζ :: (orow 37 4 (.slice A1536 l1536.length c1536) l1536.length d1536) :: Y) w) _)
                refine Any.takeE 0 rfl rfl rfl rfl (by kernel_rfl) (fun _ _ _ _ _ h => h) ((Ex.move rfl).s) ?_
                refine Any.takeE 1 rfl rfl rfl rfl (by kernel_rfl) (fun _ _ _ _ _ h => h) ((Ex.eqlI rfl rfl).s) ?_
                refine Any.takeE 2 rfl rfl rfl rfl (by kernel_rfl) (fun _ _ _ _ _ h => h) ((Ex.move rfl).s) ?_
                refine Any.case 190 rfl (fun hc => ?_) (fun hc => ?_)
                · replace hf := ifT (dec_T hc) hf
                  refine Any.takeE 3 rfl rfl rfl rfl (by kernel_rfl) (fun _ _ _ _ _ h => h) (ExS.g ((Ex.fieldAddr rfl Try.underlying31 rfl sz29).s)) ?_
                  refine Any.take 0 4 rfl rfl rfl rfl rfl (by kernel_rfl) (fun _ _ _ _ _ h => h) (ExS.g (ExS.load rfl Try.underlying29 rfl (fun w hS => by obtain ⟨_, _, _, hs⟩ := hS; exact hs.cell (i := 2) rfl rfl))) hS0 ?_
                  refine Any.takeE 5 rfl rfl rfl rfl (by kernel_rfl) (fun _ _ _ _ _ h => h) (ExS.g ((Ex.neqP f13 rfl rfl Try.underlying29).s)) ?_
                  refine Any.takeE 6 rfl rfl rfl rfl (by kernel_rfl) (fun _ _ _ _ _ h => h) (ExS.g ((Ex.move rfl).s)) ?_
                  refine Any.takeE 7 rfl rfl rfl rfl (by kernel_rfl) (fun _ _ _ _ _ h => h) (ExS.g ((Ex.eqlBo rfl rfl Try.underlying4).s)) ?_
                  refine Any.takeE 8 rfl rfl rfl rfl (by kernel_rfl) (fun _ _ _ _ _ h => h) ((Ex.pickT rfl rfl).s) ?_
                  refine Any.takeE 9 rfl rfl rfl rfl (by kernel_rfl) (fun _ _ _ _ _ h => h) ((Ex.move rfl).s) ?_
                  refine Any.case 197 rfl (fun hc => ?_) (fun hc => ?_)
                  · replace hf := ifT (dec_T hc) hf
                    refine Any.takeE 10 rfl rfl rfl rfl (by kernel_rfl) (fun _ _ _ _ _ h => h) (ExS.g ((Ex.move rfl).s)) ?_
                    refine Any.takeE 11 rfl rfl rfl rfl (by kernel_rfl) (fun _ _ _ _ _ h => h) (ExS.g ((Ex.not rfl).s)) ?_
                    refine Any.takeE 12 rfl rfl rfl rfl (by kernel_rfl) (fun _ _ _ _ _ h => h) (ExS.g ((Ex.move rfl).s)) ?_
                    refine Any.case 200 rfl (fun hc => ?_) (fun hc => ?_)
                    · replace hf := ifF (neq_T hc) hf
                      refine Any.pass 13 rfl rfl rfl rfl (by kernel_rfl) (fun _ _ _ _ _ h => h) ?_
                      refine Any.pass 14 rfl rfl rfl rfl (by kernel_rfl) (fun _ _ _ _ _ h => h) ?_
                      refine Any.pass 15 rfl rfl rfl rfl (by kernel_rfl) (fun _ _ _ _ _ h => h) ?_
                      refine Any.pass 16 rfl rfl rfl rfl (by kernel_rfl) (fun _ _ _ _ _ h => h) ?_
                      refine Any.pass 17 rfl rfl rfl rfl (by kernel_rfl) (fun _ _ _ _ _ h => h) ?_
                      refine Any.pass 18 rfl rfl rfl rfl (by kernel_rfl) (fun _ _ _ _ _ h => h) ?_
                      refine Any.takeE 19 rfl rfl rfl rfl (by kernel_rfl) (fun _ _ _ _ _ h => h) (ExS.g ((Ex.pickT rfl rfl).s)) ?_
                      refine Any.takeE 20 rfl rfl rfl rfl (by kernel_rfl) (fun _ _ _ _ _ h => h) ((Ex.pickT rfl rfl).s) ?_
                      refine Any.takeE 21 rfl rfl rfl rfl (by kernel_rfl) (fun _ _ _ _ _ h => h) ((Ex.move rfl).s) ?_
                      refine Any.takeE 22 rfl rfl rfl rfl (by kernel_rfl) (fun _ _ _ _ _ h => h) (ExS.g ((Ex.fieldAddr rfl Try.underlying31 rfl sz25).s)) ?_
                      refine Any.take 0 23 rfl rfl rfl rfl rfl (by kernel_rfl) (fun _ _ _ _ _ h => h) (ExS.g (ExS.load rfl Try.underlying25 rfl (fun w hS => by obtain ⟨_, _, _, hs⟩ := hS; exact hs.cell (i := 2) rfl rfl))) hS0 ?_
                      refine Any.takeE 24 rfl rfl rfl rfl (by kernel_rfl) (fun _ _ _ _ _ h => h) (ExS.g ((Ex.move rfl).s)) ?_
                      obtain ⟨z1562, hz1562, f1562, hst1562, hu1562⟩ := St.lend (τ := tapiRef) (xs := l1066) (St.up (St.up (St.up (St.up (St.up hst1559 4 rfl) 4 rfl) 3 rfl) 4 rfl) 4 rfl) f1066 rfl
                      obtain ⟨y1561, hy1561, hf⟩ := bnd hf
                      refine Any.one 25 (by kernel_rfl) rfl rfl (One.g <| One.of_ops rfl ?_)
                      refine Ops.call rfl rfl Try.func15 (by kernel_rfl) (by kernel_rfl) rfl (go_law11_refs.walk (p0 := y12.1.Deltas) (p1 := l1066) (hst := hst1562) (f1 := (f14.mono hz1562)) (f2 := f1562) (hf := hy1561)) ?_
                      rintro _ w1561 ⟨z1561, rfl, hz1561, hst1561⟩
                      obtain ⟨z1564, hz1564, hst1564⟩ := hu1562 _ _ _ hz1561 hst1561
                      refine ⟨_, rfl, Ops.stop ?_⟩
                      replace f1443 := f1443.mono hz1564; replace f13 := f13.mono hz1564; replace f14 := f14.mono hz1564; replace f1066 := f1066.mono hz1564; replace f1536 := f1536.mono hz1564; replace f15 := f15.mono hz1564
                      replace hy1539_0 := hy1539_0.trans hz1564
                      replace hy1539_1 := hy1539_1.trans hz1564
                      replace hy1539_2 := hy1539_2.trans hz1564
                      replace hy1539_3 := hy1539_3.trans hz1564
                      replace hz1539 := hz1539.trans hz1564
                      replace hm1560 := hm1560.trans hz1564
                      have hS0 := (⟨_, _, hm1560, (St.up (St.up (St.up hst1564 4 rfl) 4 rfl) 2 rfl)⟩ : (fun w => ∃ ζ Y, Le z1534 ζ ∧ Ht w0 (frz ζ :: (blk g30 [vs y24.1.Name, vi y24.1.Kind, vi y24.1.From, vi y24.1.To] 37) :: (blk g17 [.pointer A13, .slice A14 y12.1.Deltas.length c14, .slice A15 y12.1.Parts.length c15] 31) :: Y) w) _)
                      have hS2 := (⟨_, _, hm1560, (St.up (St.up hst1564 2 rfl) 1 rfl)⟩ : (fun w => ∃ ζ Y, Le z1534 ζ ∧ Ht w0 (frz ζ :: (orow 37 4 (.slice A1536 l1536.length c1536) l1536.length d1536) :: Y) w) _)
                      refine ⟨⟨.inr (fun _ => hS0), .inl (by decide), .inr (fun _ => hS2), trivial⟩, ?_⟩
                      refine Any.takeE 26 rfl rfl rfl rfl (by kernel_rfl) (fun _ _ _ _ _ h => h) ((Ex.pickT rfl rfl).s) ?_
                      refine Any.takeE 27 rfl rfl rfl rfl (by kernel_rfl) (fun _ _ _ _ _ h => h) ((Ex.move rfl).s) ?_
                      refine Any.case 215 rfl (fun hc => ?_) (fun hc => ?_)
                      · replace hf := ifTb hc hf
                        refine Any.takeE 28 rfl rfl rfl rfl (by kernel_rfl) (fun _ _ _ _ _ h => h) (ExS.g ((Ex.fieldAddr rfl Try.underlying31 rfl sz25).s)) ?_
                        refine Any.take 0 29 rfl rfl rfl rfl rfl (by kernel_rfl) (fun _ _ _ _ _ h => h) (ExS.g (ExS.load rfl Try.underlying25 rfl (fun w hS => by obtain ⟨_, _, _, hs⟩ := hS; exact hs.cell (i := 2) rfl rfl))) hS0 ?_
                        refine Any.takeE 30 rfl rfl rfl rfl (by kernel_rfl) (fun _ _ _ _ _ h => h) (ExS.g ((Ex.move rfl).s)) ?_
                        obtain ⟨z1566, hz1566, f1566, hst1566, hu1566⟩ := St.lend (τ := tapiRef) (xs := l1536) (St.up (St.up (St.up (St.up (St.up hst1564 4 rfl) 4 rfl) 3 rfl) 4 rfl) 4 rfl) f1536 rfl
                        obtain ⟨y1565, hy1565, hf⟩ := bnd hf
                        refine Any.one 31 (by kernel_rfl) rfl rfl (One.g <| One.of_ops rfl ?_)
                        refine Ops.call rfl rfl Try.func15 (by kernel_rfl) (by kernel_rfl) rfl (go_law11_refs.walk (p0 := y12.1.Parts) (p1 := l1536) (hst := hst1566) (f1 := (f15.mono hz1566)) (f2 := f1566) (hf := hy1565)) ?_
                        rintro _ w1565 ⟨z1565, rfl, hz1565, hst1565⟩
                        obtain ⟨z1568, hz1568, hst1568⟩ := hu1566 _ _ _ hz1565 hst1565
                        refine ⟨_, rfl, Ops.stop ?_⟩
                        replace f1443 := f1443.mono hz1568; replace f13 := f13.mono hz1568; replace f14 := f14.mono hz1568; replace f15 := f15.mono hz1568; replace f1536 := f1536.mono hz1568; replace f1066 := f1066.mono hz1568
                        replace hy1539_0 := hy1539_0.trans hz1568
                        replace hy1539_1 := hy1539_1.trans hz1568
                        replace hy1539_2 := hy1539_2.trans hz1568
                        replace hy1539_3 := hy1539_3.trans hz1568
                        replace hz1539 := hz1539.trans hz1568
                        replace hm1560 := hm1560.trans hz1568
                        have hS0 := (⟨_, _, hm1560, (St.up (St.up (St.up hst1568 4 rfl) 4 rfl) 2 rfl)⟩ : (fun w => ∃ ζ Y, Le z1534 ζ ∧ Ht w0 (frz ζ :: (blk g30 [vs y24.1.Name, vi y24.1.Kind, vi y24.1.From, vi y24.1.To] 37) :: (blk g17 [.pointer A13, .slice A14 y12.1.Deltas.length c14, .slice A15 y12.1.Parts.length c15] 31) :: Y) w) _)
                        refine ⟨⟨.inr (fun _ => hS0), .inl (by decide), .inl (by decide), trivial⟩, ?_⟩
                        refine Any.takeE 32 rfl rfl rfl rfl (by kernel_rfl) (fun _ _ _ _ _ h => h) ((Ex.pickT rfl rfl).s) ?_
                        refine Any.takeE 33 rfl rfl rfl rfl (by kernel_rfl) (fun _ _ _ _ _ h => h) ((Ex.assign rfl).s) ?_
                        refine Any.done (by kernel_rfl) ?_
                        obtain rfl := Option.some.inj hf
                        exact Run.retV [vb y1565] rfl ⟨rfl, trivial⟩ ⟨z1568, rfl, hy1539_0, (St.forget (St.forget (St.forget (St.forget hst1568 4) 3) 2) 1)⟩
                      · replace hf := ifFb hc hf
                        refine Any.pass 28 rfl rfl rfl rfl (by kernel_rfl) (fun _ _ _ _ _ h => h) ?_
                        refine Any.pass 29 rfl rfl rfl rfl (by kernel_rfl) (fun _ _ _ _ _ h => h) ?_
                        refine Any.pass 30 rfl rfl rfl rfl (by kernel_rfl) (fun _ _ _ _ _ h => h) ?_
                        refine Any.pass 31 rfl rfl rfl rfl (by kernel_rfl) (fun _ _ _ _ _ h => h) ?_
                        refine Any.takeE 32 rfl rfl rfl rfl (by kernel_rfl) (fun _ _ _ _ _ h => h) ((Ex.pickF rfl rfl).s) ?_
                        refine Any.takeE 33 rfl rfl rfl rfl (by kernel_rfl) (fun _ _ _ _ _ h => h) ((Ex.assign rfl).s) ?_
                        refine Any.done (by kernel_rfl) ?_
                        obtain rfl := Option.some.inj hf
                        exact Run.retV [vb false] rfl ⟨rfl, trivial⟩ ⟨z1564, rfl, hy1539_0, (St.forget (St.forget (St.forget (St.forget hst1564 4) 3) 2) 1)⟩
                    · replace hf := ifT (neq_F hc) hf
                      refine Any.takeE 13 rfl rfl rfl rfl (by kernel_rfl) (fun _ _ _ _ _ h => h) (ExS.g ((Ex.fieldAddr rfl Try.underlying31 rfl sz29).s)) ?_
                      refine Any.take 0 14 rfl rfl rfl rfl rfl (by kernel_rfl) (fun _ _ _ _ _ h => h) (ExS.g (ExS.load rfl Try.underlying29 rfl (fun w hS => by obtain ⟨_, _, _, hs⟩ := hS; exact hs.cell (i := 2) rfl rfl))) hS0 ?_
                      obtain ⟨y1569, hy1569, hf⟩ := bnd hf
                      obtain ⟨g1569, o1569, cs1569, hA1569, f1569, hr1569⟩ := f13.some hy1569
                      obtain rfl := hr1569
                      refine Any.takeE 15 rfl rfl rfl rfl (by kernel_rfl) (fun _ _ _ _ _ h => h) (ExS.g ((Ex.nilP hA1569 rfl).s)) ?_
                      refine Any.take 0 16 rfl rfl rfl rfl rfl (by kernel_rfl) (fun _ _ _ _ _ h => h) (ExS.g (ExS.loadAgg [vs y1569.Name, vi y1569.Kind, vi y1569.From, vi y1569.To] rfl Try.underlying37 rfl sz37 rfl (fun w hS => by obtain ⟨_, _, hz, hs⟩ := hS; exact cells_of_zc rfl (f1569.mono (hz.trans hs.le))))) hS0 ?_
                      refine Any.take 0 17 rfl rfl rfl rfl rfl (by kernel_rfl) (fun _ _ _ _ _ h => h) (ExS.g (ExS.loadAgg [vs y24.1.Name, vi y24.1.Kind, vi y24.1.From, vi y24.1.To] rfl Try.underlying37 rfl sz37 rfl (fun w hS => by obtain ⟨_, _, _, hs⟩ := hS; exact hs.cells (i := 1) rfl 0 4))) hS0 ?_
                      refine Any.takeE 18 rfl rfl rfl rfl (by kernel_rfl) (fun _ _ _ _ _ h => h) (ExS.g ((Ex.eqlV rfl rfl (eqv37 9998 y1569 y24.1) (by kernel_rfl)).s)) ?_
                      refine Any.takeE 19 rfl rfl rfl rfl (by kernel_rfl) (fun _ _ _ _ _ h => h) (ExS.g ((Ex.pickF rfl rfl).s)) ?_
                      refine Any.takeE 20 rfl rfl rfl rfl (by kernel_rfl) (fun _ _ _ _ _ h => h) ((Ex.pickT rfl rfl).s) ?_
                      refine Any.takeE 21 rfl rfl rfl rfl (by kernel_rfl) (fun _ _ _ _ _ h => h) ((Ex.move rfl).s) ?_
                      refine Any.case 209 rfl (fun hc => ?_) (fun hc => ?_)
                      · replace hf := ifT (dec_T hc) hf
                        refine Any.takeE 22 rfl rfl rfl rfl (by kernel_rfl) (fun _ _ _ _ _ h => h) (ExS.g ((Ex.fieldAddr rfl Try.underlying31 rfl sz25).s)) ?_
                        refine Any.take 0 23 rfl rfl rfl rfl rfl (by kernel_rfl) (fun _ _ _ _ _ h => h) (ExS.g (ExS.load rfl Try.underlying25 rfl (fun w hS => by obtain ⟨_, _, _, hs⟩ := hS; exact hs.cell (i := 2) rfl rfl))) hS0 ?_
                        refine Any.takeE 24 rfl rfl rfl rfl (by kernel_rfl) (fun _ _ _ _ _ h => h) (ExS.g ((Ex.move rfl).s)) ?_
                        obtain ⟨z1575, hz1575, f1575, hst1575, hu1575⟩ := St.lend (τ := tapiRef) (xs := l1066) (St.up (St.up (St.up (St.up (St.up hst1559 4 rfl) 4 rfl) 3 rfl) 4 rfl) 4 rfl) f1066 rfl
                        obtain ⟨y1574, hy1574, hf⟩ := bnd hf
                        refine Any.one 25 (by kernel_rfl) rfl rfl (One.g <| One.of_ops rfl ?_)
                        refine Ops.call rfl rfl Try.func15 (by kernel_rfl) (by kernel_rfl) rfl (go_law11_refs.walk (p0 := y12.1.Deltas) (p1 := l1066) (hst := hst1575) (f1 := (f14.mono hz1575)) (f2 := f1575) (hf := hy1574)) ?_
                        rintro _ w1574 ⟨z1574, rfl, hz1574, hst1574⟩
                        obtain ⟨z1577, hz1577, hst1577⟩ := hu1575 _ _ _ hz1574 hst1574
                        refine ⟨_, rfl, Ops.stop ?_⟩
                        replace f1443 := f1443.mono hz1577; replace f13 := f13.mono hz1577; replace f1569 := f1569.mono hz1577; replace f14 := f14.mono hz1577; replace f1066 := f1066.mono hz1577; replace f1536 := f1536.mono hz1577; replace f15 := f15.mono hz1577
                        replace hy1539_0 := hy1539_0.trans hz1577
                        replace hy1539_1 := hy1539_1.trans hz1577
                        replace hy1539_2 := hy1539_2.trans hz1577
                        replace hy1539_3 := hy1539_3.trans hz1577
                        replace hz1539 := hz1539.trans hz1577
                        replace hm1560 := hm1560.trans hz1577
                        have hS0 := (⟨_, _, hm1560, (St.up (St.up (St.up hst1577 4 rfl) 4 rfl) 2 rfl)⟩ : (fun w => ∃ ζ Y, Le z1534 ζ ∧ Ht w0 (frz ζ :: (blk g30 [vs y24.1.Name, vi y24.1.Kind, vi y24.1.From, vi y24.1.To] 37) :: (blk g17 [.pointer A13, .slice A14 y12.1.Deltas.length c14, .slice A15 y12.1.Parts.length c15] 31) :: Y) w) _)
                        have hS2 := (⟨_, _, hm1560, (St.up (St.up hst1577 2 rfl) 1 rfl)⟩ : (fun w => ∃ ζ Y, Le z1534 ζ ∧ Ht w0 (frz ζ :: (orow 37 4 (.slice A1536 l1536.length c1536) l1536.length d1536) :: Y) w) _)
                        refine ⟨⟨.inr (fun _ => hS0), .inl (by decide), .inr (fun _ => hS2), trivial⟩, ?_⟩
                        refine Any.takeE 26 rfl rfl rfl rfl (by kernel_rfl) (fun _ _ _ _ _ h => h) ((Ex.pickT rfl rfl).s) ?_
                        refine Any.takeE 27 rfl rfl rfl rfl (by kernel_rfl) (fun _ _ _ _ _ h => h) ((Ex.move rfl).s) ?_
                        refine Any.case 215 rfl (fun hc => ?_) (fun hc => ?_)
                        · replace hf := ifTb hc hf
                          refine Any.takeE 28 rfl rfl rfl rfl (by kernel_rfl) (fun _ _ _ _ _ h => h) (ExS.g ((Ex.fieldAddr rfl Try.underlying31 rfl sz25).s)) ?_
                          refine Any.take 0 29 rfl rfl rfl rfl rfl (by kernel_rfl) (fun _ _ _ _ _ h => h) (ExS.g (ExS.load rfl Try.underlying25 rfl (fun w hS => by obtain ⟨_, _, _, hs⟩ := hS; exact hs.cell (i := 2) rfl rfl))) hS0 ?_
                          refine Any.takeE 30 rfl rfl rfl rfl (by kernel_rfl) (fun _ _ _ _ _ h => h) (ExS.g ((Ex.move rfl).s)) ?_
                          obtain ⟨z1579, hz1579, f1579, hst1579, hu1579⟩ := St.lend (τ := tapiRef) (xs := l1536) (St.up (St.up (St.up (St.up (St.up hst1577 4 rfl) 4 rfl) 3 rfl) 4 rfl) 4 rfl) f1536 rfl
                          obtain ⟨y1578, hy1578, hf⟩ := bnd hf
                          refine Any.one 31 (by kernel_rfl) rfl rfl (One.g <| One.of_ops rfl ?_)
                          refine Ops.call rfl rfl Try.func15 (by kernel_rfl) (by kernel_rfl) rfl (go_law11_refs.walk (p0 := y12.1.Parts) (p1 := l1536) (hst := hst1579) (f1 := (f15.mono hz1579)) (f2 := f1579) (hf := hy1578)) ?_
                          rintro _ w1578 ⟨z1578, rfl, hz1578, hst1578⟩
                          obtain ⟨z1581, hz1581, hst1581⟩ := hu1579 _ _ _ hz1578 hst1578
                          refine ⟨_, rfl, Ops.stop ?_⟩
                          replace f1443 := f1443.mono hz1581; replace f13 := f13.mono hz1581; replace f1569 := f1569.mono hz1581; replace f14 := f14.mono hz1581; replace f15 := f15.mono hz1581; replace f1536 := f1536.mono hz1581; replace f1066 := f1066.mono hz1581
                          replace hy1539_0 := hy1539_0.trans hz1581
                          replace hy1539_1 := hy1539_1.trans hz1581
                          replace hy1539_2 := hy1539_2.trans hz1581
                          replace hy1539_3 := hy1539_3.trans hz1581
                          replace hz1539 := hz1539.trans hz1581
                          replace hm1560 := hm1560.trans hz1581
                          have hS0 := (⟨_, _, hm1560, (St.up (St.up (St.up hst1581 4 rfl) 4 rfl) 2 rfl)⟩ : (fun w => ∃ ζ Y, Le z1534 ζ ∧ Ht w0 (frz ζ :: (blk g30 [vs y24.1.Name, vi y24.1.Kind, vi y24.1.From, vi y24.1.To] 37) :: (blk g17 [.pointer A13, .slice A14 y12.1.Deltas.length c14, .slice A15 y12.1.Parts.length c15] 31) :: Y) w) _)
                          refine ⟨⟨.inr (fun _ => hS0), .inl (by decide), .inl (by decide), trivial⟩, ?_⟩
                          refine Any.takeE 32 rfl rfl rfl rfl (by kernel_rfl) (fun _ _ _ _ _ h => h) ((Ex.pickT rfl rfl).s) ?_
                          refine Any.takeE 33 rfl rfl rfl rfl (by kernel_rfl) (fun _ _ _ _ _ h => h) ((Ex.assign rfl).s) ?_
                          refine Any.done (by kernel_rfl) ?_
                          obtain rfl := Option.some.inj hf
                          exact Run.retV [vb y1578] rfl ⟨rfl, trivial⟩ ⟨z1581, rfl, hy1539_0, (St.forget (St.forget (St.forget (St.forget hst1581 4) 3) 2) 1)⟩
                        · replace hf := ifFb hc hf
                          refine Any.pass 28 rfl rfl rfl rfl (by kernel_rfl) (fun _ _ _ _ _ h => h) ?_
                          refine Any.pass 29 rfl rfl rfl rfl (by kernel_rfl) (fun _ _ _ _ _ h => h) ?_
                          refine Any.pass 30 rfl rfl rfl rfl (by kernel_rfl) (fun _ _ _ _ _ h => h) ?_
                          refine Any.pass 31 rfl rfl rfl rfl (by kernel_rfl) (fun _ _ _ _ _ h => h) ?_
                          refine Any.takeE 32 rfl rfl rfl rfl (by kernel_rfl) (fun _ _ _ _ _ h => h) ((Ex.pickF rfl rfl).s) ?_
                          refine Any.takeE 33 rfl rfl rfl rfl (by kernel_rfl) (fun _ _ _ _ _ h => h) ((Ex.assign rfl).s) ?_
                          refine Any.done (by kernel_rfl) ?_
                          obtain rfl := Option.some.inj hf
                          exact Run.retV [vb false] rfl ⟨rfl, trivial⟩ ⟨z1577, rfl, hy1539_0, (St.forget (St.forget (St.forget (St.forget hst1577 4) 3) 2) 1)⟩
                      · replace hf := ifF (dec_F hc) hf
                        refine Any.pass 22 rfl rfl rfl rfl (by kernel_rfl) (fun _ _ _ _ _ h => h) ?_
                        refine Any.pass 23 rfl rfl rfl rfl (by kernel_rfl) (fun _ _ _ _ _ h => h) ?_
                        refine Any.pass 24 rfl rfl rfl rfl (by kernel_rfl) (fun _ _ _ _ _ h => h) ?_
                        refine Any.pass 25 rfl rfl rfl rfl (by kernel_rfl) (fun _ _ _ _ _ h => h) ?_
                        refine Any.takeE 26 rfl rfl rfl rfl (by kernel_rfl) (fun _ _ _ _ _ h => h) ((Ex.pickF rfl rfl).s) ?_
                        refine Any.takeE 27 rfl rfl rfl rfl (by kernel_rfl) (fun _ _ _ _ _ h => h) ((Ex.move rfl).s) ?_
                        refine Any.pass 28 rfl rfl rfl rfl (by kernel_rfl) (fun _ _ _ _ _ h => h) ?_
                        refine Any.pass 29 rfl rfl rfl rfl (by kernel_rfl) (fun _ _ _ _ _ h => h) ?_
                        refine Any.pass 30 rfl rfl rfl rfl (by kernel_rfl) (fun _ _ _ _ _ h => h) ?_
                        refine Any.pass 31 rfl rfl rfl rfl (by kernel_rfl) (fun _ _ _ _ _ h => h) ?_
                        refine Any.takeE 32 rfl rfl rfl rfl (by kernel_rfl) (fun _ _ _ _ _ h => h) ((Ex.pickF rfl rfl).s) ?_
                        refine Any.takeE 33 rfl rfl rfl rfl (by kernel_rfl) (fun _ _ _ _ _ h => h) ((Ex.assign rfl).s) ?_
                        refine Any.done (by kernel_rfl) ?_
                        obtain rfl := Option.some.inj hf
                        exact Run.retV [vb false] rfl ⟨rfl, trivial⟩ ⟨z1534, rfl, hy1539_0, (St.forget (St.forget (St.forget (St.forget hst1559 4) 3) 2) 1)⟩
                  · replace hf := ifF (dec_F hc) hf
                    refine Any.pass 10 rfl rfl rfl rfl (by kernel_rfl) (fun _ _ _ _ _ h => h) ?_
                    refine Any.pass 11 rfl rfl rfl rfl (by kernel_rfl) (fun _ _ _ _ _ h => h) ?_
                    refine Any.pass 12 rfl rfl rfl rfl (by kernel_rfl) (fun _ _ _ _ _ h => h) ?_
                    refine Any.passU 13 rfl rfl rfl rfl rfl (by kernel_rfl) (fun _ _ _ _ _ h => h) ?_
                    refine Any.passU 14 rfl rfl rfl rfl rfl (by kernel_rfl) (fun _ _ _ _ _ h => h) ?_
                    refine Any.passU 15 rfl rfl rfl rfl rfl (by kernel_rfl) (fun _ _ _ _ _ h => h) ?_
                    refine Any.passU 16 rfl rfl rfl rfl rfl (by kernel_rfl) (fun _ _ _ _ _ h => h) ?_
                    refine Any.passU 17 rfl rfl rfl rfl rfl (by kernel_rfl) (fun _ _ _ _ _ h => h) ?_
                    refine Any.passU 18 rfl rfl rfl rfl rfl (by kernel_rfl) (fun _ _ _ _ _ h => h) ?_
                    refine Any.pass 19 rfl rfl rfl rfl (by kernel_rfl) (fun _ _ _ _ _ h => h) ?_
                    refine Any.takeE 20 rfl rfl rfl rfl (by kernel_rfl) (fun _ _ _ _ _ h => h) ((Ex.pickF rfl rfl).s) ?_
                    refine Any.takeE 21 rfl rfl rfl rfl (by kernel_rfl) (fun _ _ _ _ _ h => h) ((Ex.move rfl).s) ?_
                    refine Any.pass 22 rfl rfl rfl rfl (by kernel_rfl) (fun _ _ _ _ _ h => h) ?_
                    refine Any.pass 23 rfl rfl rfl rfl (by kernel_rfl) (fun _ _ _ _ _ h => h) ?_
                    refine Any.pass 24 rfl rfl rfl rfl (by kernel_rfl) (fun _ _ _ _ _ h => h) ?_
                    refine Any.pass 25 rfl rfl rfl rfl (by kernel_rfl) (fun _ _ _ _ _ h => h) ?_
                    refine Any.takeE 26 rfl rfl rfl rfl (by kernel_rfl) (fun _ _ _ _ _ h => h) ((Ex.pickF rfl rfl).s) ?_
                    refine Any.takeE 27 rfl rfl rfl rfl (by kernel_rfl) (fun _ _ _ _ _ h => h) ((Ex.move rfl).s) ?_
                    refine Any.pass 28 rfl rfl rfl rfl (by kernel_rfl) (fun _ _ _ _ _ h => h) ?_
                    refine Any.pass 29 rfl rfl rfl rfl (by kernel_rfl) (fun _ _ _ _ _ h => h) ?_
                    refine Any.pass 30 rfl rfl rfl rfl (by kernel_rfl) (fun _ _ _ _ _ h => h) ?_
                    refine Any.pass 31 rfl rfl rfl rfl (by kernel_rfl) (fun _ _ _ _ _ h => h) ?_
                    refine Any.takeE 32 rfl rfl rfl rfl (by kernel_rfl) (fun _ _ _ _ _ h => h) ((Ex.pickF rfl rfl).s) ?_
                    refine Any.takeE 33 rfl rfl rfl rfl (by kernel_rfl) (fun _ _ _ _ _ h => h) ((Ex.assign rfl).s) ?_
                    refine Any.done (by kernel_rfl) ?_
                    obtain rfl := Option.some.inj hf
                    exact Run.retV [vb false] rfl ⟨rfl, trivial⟩ ⟨z1534, rfl, hy1539_0, (St.forget (St.forget (St.forget (St.forget hst1559 4) 3) 2) 1)⟩
                · replace hf := ifF (dec_F hc) hf
                  refine Any.pass 3 rfl rfl rfl rfl (by kernel_rfl) (fun _ _ _ _ _ h => h) ?_
                  refine Any.pass 4 rfl rfl rfl rfl (by kernel_rfl) (fun _ _ _ _ _ h => h) ?_
                  refine Any.pass 5 rfl rfl rfl rfl (by kernel_rfl) (fun _ _ _ _ _ h => h) ?_
                  refine Any.pass 6 rfl rfl rfl rfl (by kernel_rfl) (fun _ _ _ _ _ h => h) ?_
                  refine Any.pass 7 rfl rfl rfl rfl (by kernel_rfl) (fun _ _ _ _ _ h => h) ?_
                  refine Any.takeE 8 rfl rfl rfl rfl (by kernel_rfl) (fun _ _ _ _ _ h => h) ((Ex.pickF rfl rfl).s) ?_
                  refine Any.takeE 9 rfl rfl rfl rfl (by kernel_rfl) (fun _ _ _ _ _ h => h) ((Ex.move rfl).s) ?_
                  refine Any.pass 10 rfl rfl rfl rfl (by kernel_rfl) (fun _ _ _ _ _ h => h) ?_
                  refine Any.pass 11 rfl rfl rfl rfl (by kernel_rfl) (fun _ _ _ _ _ h => h) ?_
                  refine Any.pass 12 rfl rfl rfl rfl (by kernel_rfl) (fun _ _ _ _ _ h => h) ?_
                  refine Any.passU 13 rfl rfl rfl rfl rfl (by kernel_rfl) (fun _ _ _ _ _ h => h) ?_
                  refine Any.passU 14 rfl rfl rfl rfl rfl (by kernel_rfl) (fun _ _ _ _ _ h => h) ?_
                  refine Any.passU 15 rfl rfl rfl rfl rfl (by kernel_rfl) (fun _ _ _ _ _ h => h) ?_
                  refine Any.passU 16 rfl rfl rfl rfl rfl (by kernel_rfl) (fun _ _ _ _ _ h => h) ?_
                  refine Any.passU 17 rfl rfl rfl rfl rfl (by kernel_rfl) (fun _ _ _ _ _ h => h) ?_
                  refine Any.passU 18 rfl rfl rfl rfl rfl (by kernel_rfl) (fun _ _ _ _ _ h => h) ?_
                  refine Any.pass 19 rfl rfl rfl rfl (by kernel_rfl) (fun _ _ _ _ _ h => h) ?_
                  refine Any.takeE 20 rfl rfl rfl rfl (by kernel_rfl) (fun _ _ _ _ _ h => h) ((Ex.pickF rfl rfl).s) ?_
                  refine Any.takeE 21 rfl rfl rfl rfl (by kernel_rfl) (fun _ _ _ _ _ h => h) ((Ex.move rfl).s) ?_
                  refine Any.pass 22 rfl rfl rfl rfl (by kernel_rfl) (fun _ _ _ _ _ h => h) ?_
                  refine Any.pass 23 rfl rfl rfl rfl (by kernel_rfl) (fun _ _ _ _ _ h => h) ?_
                  refine Any.pass 24 rfl rfl rfl rfl (by kernel_rfl) (fun _ _ _ _ _ h => h) ?_
                  refine Any.pass 25 rfl rfl rfl rfl (by kernel_rfl) (fun _ _ _ _ _ h => h) ?_
                  refine Any.takeE 26 rfl rfl rfl rfl (by kernel_rfl) (fun _ _ _ _ _ h => h) ((Ex.pickF rfl rfl).s) ?_
                  refine Any.takeE 27 rfl rfl rfl rfl (by kernel_rfl) (fun _ _ _ _ _ h => h) ((Ex.move rfl).s) ?_
                  refine Any.pass 28 rfl rfl rfl rfl (by kernel_rfl) (fun _ _ _ _ _ h => h) ?_
                  refine Any.pass 29 rfl rfl rfl rfl (by kernel_rfl) (fun _ _ _ _ _ h => h) ?_
                  refine Any.pass 30 rfl rfl rfl rfl (by kernel_rfl) (fun _ _ _ _ _ h => h) ?_
                  refine Any.pass 31 rfl rfl rfl rfl (by kernel_rfl) (fun _ _ _ _ _ h => h) ?_
                  refine Any.takeE 32 rfl rfl rfl rfl (by kernel_rfl) (fun _ _ _ _ _ h => h) ((Ex.pickF rfl rfl).s) ?_
                  refine Any.takeE 33 rfl rfl rfl rfl (by kernel_rfl) (fun _ _ _ _ _ h => h) ((Ex.assign rfl).s) ?_
                  refine Any.done (by kernel_rfl) ?_
                  obtain rfl := Option.some.inj hf
                  exact Run.retV [vb false] rfl ⟨rfl, trivial⟩ ⟨z1534, rfl, hy1539_0, (St.forget (St.forget (St.forget (St.forget hst1559 4) 3) 2) 1)⟩
          · replace hf := ifF (dec_F hc) hf
            refine Run.skip ?_
            have hm1583 := Le.refl z1422
            refine Run.drawH [([], fun w => ∃ ζ Y, Le z1422 ζ ∧ Ht w0 (frz ζ :: (blk g30 [vs y24.1.Name, vi y24.1.Kind, vi y24.1.From, vi y24.1.To] 37) :: (blk g17 [.pointer A13, .slice A14 y12.1.Deltas.length c14, .slice A15 y12.1.Parts.length c15] 31) :: (blk g10 [.slice A8 y7.Refs.length c8, vi y7.Floor] 27) :: Y) w), ([6], fun w => ∃ ζ Y, Le z1422 ζ ∧ Ht w0 (frz ζ :: (orow 37 4 (.slice A1066 l1066.length c1066) l1066.length d1066) :: Y) w)] (by kernel_rfl) hst1425 (fun w1582 hst1582 => ?_)
            have hS0 := (⟨_, _, (Le.refl _), (St.up (St.up (St.up (St.up hst1582 4 rfl) 4 rfl) 4 rfl) 3 rfl)⟩ : (fun w => ∃ ζ Y, Le z1422 ζ ∧ Ht w0 (frz ζ :: (blk g30 [vs y24.1.Name, vi y24.1.Kind, vi y24.1.From, vi y24.1.To] 37) :: (blk g17 [.pointer A13, .slice A14 y12.1.Deltas.length c14, .slice A15 y12.1.Parts.length c15] 31) :: (blk g10 [.slice A8 y7.Refs.length c8, vi y7.Floor] 27) :: Y) w) _)
            have hS1 := (⟨_, _, (Le.refl _), (St.up (St.up hst1582 1 rfl) 1 rfl)⟩ : (fun w => ∃ ζ Y, Le z1422 ζ ∧ Ht w0 (frz ζ :: (orow 37 4 (.slice A1066 l1066.length c1066) l1066.length d1066) :: Y) w) _)
            refine Any.takeE 0 rfl rfl rfl rfl (by kernel_rfl) (fun _ _ _ _ _ h => h) ((Ex.move rfl).s) ?_
            refine Any.takeE 1 rfl rfl rfl rfl (by kernel_rfl) (fun _ _ _ _ _ h => h) ((Ex.move rfl).s) ?_
            refine Any.takeE 2 rfl rfl rfl rfl (by kernel_rfl) (fun _ _ _ _ _ h => h) ((Ex.move rfl).s) ?_
            obtain ⟨y1584, hy1584, hf⟩ := bnd hf
            obtain ⟨g1589, p1589, o1589, cs1589, hA1589, ho1589, hr1589, f1589⟩ := SlH.elem f1071.toH hy1584
            obtain rfl := hr1589
            refine Any.takeE 3 rfl rfl rfl rfl (by kernel_rfl) (fun _ _ _ _ _ h => h) ((Ex.ixA hA1589 ho1589 hy1584 rfl rfl rfl Try.underlying25 sz37).s) ?_
            refine Any.take 0 4 rfl rfl rfl rfl rfl (by kernel_rfl) (fun _ _ _ _ _ h => h) (ExS.loadAgg [vs y1584.Name, vi y1584.Kind, vi y1584.From, vi y1584.To] rfl Try.underlying37 rfl sz37 rfl (fun w hS => by obtain ⟨_, _, hz, hs⟩ := hS; exact cells_of_zc rfl (f1589.mono (hz.trans hs.le)))) hS0 ?_
            refine Any.takeE 7 rfl rfl rfl rfl (by kernel_rfl) (fun _ _ _ _ _ h => h) ((Ex.move rfl).s) ?_
            refine Any.takeE 8 rfl rfl rfl rfl (by kernel_rfl) (fun _ _ _ _ _ h => h) ((Ex.move rfl).s) ?_
            obtain ⟨g1594, p1594, o1594, cs1594, hA1594, ho1594, hr1594, f1594⟩ := SlH.elem f1071.toH hy1584
            obtain rfl := hr1594
            refine Any.takeE 9 rfl rfl rfl rfl (by kernel_rfl) (fun _ _ _ _ _ h => h) ((Ex.ixA hA1594 ho1594 hy1584 rfl rfl rfl Try.underlying25 sz37).s) ?_
            refine Any.takeE 10 rfl rfl rfl rfl (by kernel_rfl) (fun _ _ _ _ _ h => h) ((Ex.fieldAddr rfl Try.underlying37 rfl sz3).s) ?_
            refine Any.take 0 11 rfl rfl rfl rfl rfl (by kernel_rfl) (fun _ _ _ _ _ h => h) (ExS.load rfl Try.underlying3 rfl (fun w hS => by obtain ⟨_, _, hz, hs⟩ := hS; exact (f1594.mono (hz.trans hs.le)) 3 _ rfl)) hS0 ?_
            refine Any.one 5 (by kernel_rfl) rfl rfl (One.of_ops rfl ?_)
            refine Ops.sliceF [vs y1584.Name, vi y1584.Kind, vi y1584.From, vi y1584.To] hst1582 rfl Try.underlying25 sz37 zr37 rfl rfl (by kernel_rfl) rfl (by simp [Value.oneCell']) rfl (fun A1595 w1595 hst1595 => Ops.stop ?_)
            have f1595 : Cs tapiRef z1422 [vs y1584.Name, vi y1584.Kind, vi y1584.From, vi y1584.To] [y1584] := (Cs.cons (c := [vs y1584.Name, vi y1584.Kind, vi y1584.From, vi y1584.To]) rfl (Cs.nil _ _))
            have hS0 := (⟨_, _, (Le.refl _), (St.up (St.up (St.up (St.up hst1595 5 rfl) 5 rfl) 5 rfl) 3 rfl)⟩ : (fun w => ∃ ζ Y, Le z1422 ζ ∧ Ht w0 (frz ζ :: (blk g30 [vs y24.1.Name, vi y24.1.Kind, vi y24.1.From, vi y24.1.To] 37) :: (blk g17 [.pointer A13, .slice A14 y12.1.Deltas.length c14, .slice A15 y12.1.Parts.length c15] 31) :: (blk g10 [.slice A8 y7.Refs.length c8, vi y7.Floor] 27) :: Y) w) _)
            have hS1 := (⟨_, _, (Le.refl _), (St.up (St.up hst1595 2 rfl) 1 rfl)⟩ : (fun w => ∃ ζ Y, Le z1422 ζ ∧ Ht w0 (frz ζ :: (orow 37 4 (.slice A1066 l1066.length c1066) l1066.length d1066) :: Y) w) _)
            refine ⟨⟨.inr (fun _ => hS0), .inr (fun _ => hS1), trivial⟩, ?_⟩
            obtain ⟨l1596, hy1596, hf⟩ := bnd hf
            refine Any.one 6 (by kernel_rfl) rfl rfl (One.of_ops rfl ?_)
            refine Ops.app 2 hst1595 rfl f1066 rfl (own_slh f1595 rfl (hst1595.get (i := 1) rfl)) rfl hy1596 rfl rfl rfl rfl Try.underlying25 inf37 rfl (by decide) (by decide) rfl (fun A1596 c1596 d1596 w1596 f1596 hst1596 => Ops.stop ?_)
            have hS0 := (⟨_, _, (Le.refl _), (St.up (St.up (St.up (St.up hst1596 5 rfl) 5 rfl) 5 rfl) 3 rfl)⟩ : (fun w => ∃ ζ Y, Le z1422 ζ ∧ Ht w0 (frz ζ :: (blk g30 [vs y24.1.Name, vi y24.1.Kind, vi y24.1.From, vi y24.1.To] 37) :: (blk g17 [.pointer A13, .slice A14 y12.1.Deltas.length c14, .slice A15 y12.1.Parts.length c15] 31) :: (blk g10 [.slice A8 y7.Refs.length c8, vi y7.Floor] 27) :: Y) w) _)
            refine ⟨⟨.inr (fun _ => hS0), .inl (by decide), trivial⟩, ?_⟩
            refine Any.takeE 12 rfl rfl rfl rfl (by kernel_rfl) (fun _ _ _ _ _ h => h) ((Ex.assign rfl).s) ?_
            refine Any.takeE 13 rfl rfl rfl rfl (by kernel_rfl) (fun _ _ _ _ _ h => h) ((Ex.assign rfl).s) ?_
            refine Any.done (by kernel_rfl) ?_
            refine Run.endBlk ?_
            exact Run.sub (by exact subB_spec ⟨rfl, rfl, rfl, rfl, rfl, rfl, rfl, rfl, rfl, rfl, trivial⟩) (Run.stop ⟨mb32', Nat.lt_succ_self _, y1584.To, l1596, A1596, c1596, d1596, z1422, (hnxb32 _).symm.trans hf, rfl, hy1425_2, hy1425_0, hy1425_1, f1596, (St.forget hst1596 1)⟩)
def go_law11_PlanLeads.j2 (x189 : Int) (a157 : apiRef) (nxb157 : Int → Option Bool) (b201 : Bool) : Option Bool :=
  if b201 then (some false) else (nxb157 (max x189 a157.To))
def go_law11_PlanLeads.b2 (y12 : planPlan × Int) (i157 : Nat) (a157 : apiRef) : Int → (Int → Option Bool) → Option Bool :=
  fun x189 nxb157 => if a157.Kind = 2 then (if x189 < a157.From then (go_law11_PlanLeads.j2 x189 a157 nxb157 true) else (if (i157 : Int) < wr ((y12.1.Parts.length : Int) - 1) then (go_law11_PlanLeads.j2 x189 a157 nxb157 (decide (a157.To ≤ x189))) else (go_law11_PlanLeads.j2 x189 a157 nxb157 false))) else (go_law11_PlanLeads.j2 x189 a157 nxb157 true)
def go_law11_PlanLeads.b1 (i34 : Nat) (a34 : apiRef) : Int → (Int → Option Bool) → Option Bool :=
  fun x148 nxb34 => if a34.Kind = 1 then (if a34.From = x148 then (if a34.To ≤ x148 then (some false) else (nxb34 a34.To)) else (some false)) else (some false)
def go_law11_PlanLeads.j1 (p2 : UInt8) (p3 : Int8) (y12 : planPlan × Int) (x27 : Int) : Option Bool :=
  forL (go_law11_PlanLeads.b1) (fun x148 => if p3.toInt < x148 then (some false) else (forL (go_law11_PlanLeads.b2 y12) (fun x189 => if p3.toInt ≤ ((p2 % 32).toNat : Int) then (if p3.toInt ≤ x189 then (some true) else (some (decide (0 < (y12.1.Parts.length : Int))))) else (some false)) 0 y12.1.Parts x148)) 0 y12.1.Deltas x27
def go_law11_PlanLeads (p0 : List law11Ref) (p1 : UInt8) (p2 : UInt8) (p3 : Int8) : Option Bool :=
  (go_law11_awake).bind fun y5 => if y5 then ((go_law11_Set p0 p1).bind fun y7 => (go_plan_Of y7 ((p2 % 32).toNat : Int) p3.toInt).bind fun y12 => if y12.2 = 0 then (if y12.1.Full = none then (go_law11_PlanLeads.j1 p2 p3 y12 0) else ((y12.1.Full).bind fun y28 => go_law11_PlanLeads.j1 p2 p3 y12 y28.To)) else (some (decide (y12.2 = 9)))) else (some false)
set_option maxRecDepth 100000 in
set_option maxHeartbeats 4000000 in
theorem go_law11_PlanLeads.walk {w0 w : World} {X : List Res} {z0 : Zp} {p0 : List law11Ref} {A1 : Option Addr} {c1 : Nat} {p1 : UInt8} {p2 : UInt8} {p3 : Int8} {r : Bool} (hst : Ht w0 (frz z0 :: X) w) (f1 : Sl tlaw11Ref z0 A1 c1 p0) (hf : go_law11_PlanLeads p0 p1 p2 p3 = some r) :
    Calls Try.prog 4 #[.slice A1 p0.length c1, vu8 p1, vu8 p2, vi8 p3] w fun e w' => ∃ (z' : Zp), e = .returned (vb r) ∧ Le z0 z' ∧ Ht w0 (frz z' :: X) w' := by
  refine calls_np Try.func4 rfl rfl ?_
  have hle0 := Le.refl z0
  unfold go_law11_PlanLeads at hf
  refine Run.seq ?_
  refine Run.region ?_
  refine Ops.ex (Ex.assign rfl) rfl rfl rfl ?_
  refine Ops.nil ?_
  refine Run.seq ?_
  refine Run.seq ?_
  refine Run.region ?_
  obtain ⟨y5, hy5, hf⟩ := bnd hf
  refine Ops.call rfl rfl Try.func10 (by kernel_rfl) (by kernel_rfl) rfl (go_law11_awake.walk (hst := hst) (hf := hy5)) ?_
  rintro _ w5 ⟨z5, rfl, hz5, hst5⟩
  refine ⟨_, rfl, ?_⟩
  replace f1 := f1.mono hz5
  replace hle0 := hle0.trans hz5
  refine Ops.ex (Ex.not rfl) rfl rfl rfl ?_
  refine Ops.nil ?_
  refine Run.cond rfl (fun hc => ?_) (fun hc => ?_)
  · replace hf := ifFb (bn_T hc) hf
    refine Run.seq ?_
    refine Run.region ?_
    refine Ops.ex (Ex.assign rfl) rfl rfl rfl ?_
    refine Ops.nil ?_
    obtain rfl := Option.some.inj hf
    exact Run.retV [vb false] rfl ⟨rfl, trivial⟩ ⟨z5, rfl, hle0, hst5⟩
  · replace hf := ifTb (bn_F hc) hf
    refine Run.skip ?_
    refine Run.seq ?_
    refine Run.region ?_
    refine Ops.ex (Ex.move rfl) rfl rfl rfl ?_
    refine Ops.ex (Ex.move rfl) rfl rfl rfl ?_
    obtain ⟨y7, hy7, hf⟩ := bnd hf
    refine Ops.call rfl rfl Try.func11 (by kernel_rfl) (by kernel_rfl) rfl (go_law11_Set.walk (p0 := p0) (p1 := p1) (hst := hst5) (f1 := f1) (hf := hy7)) ?_
    rintro _ w7 ⟨z7, A8, c8, rfl, hz7, f8, hst7⟩
    refine ⟨_, rfl, ?_⟩
    replace f1 := f1.mono hz7
    replace hle0 := hle0.trans hz7
    refine Ops.allocF [.slice none 0 0, vi 0] hst7 zr27 rfl rfl (fun g10 w10 hst10 => ?_)
    refine Ops.store 1 [.slice A8 y7.Refs.length c8, vi y7.Floor] hst10 rfl rfl rfl rfl sz27 rfl (by simp [Value.oneCell']) (by simp) (fun w11 hst11 => ?_)
    refine Ops.nil ?_
    refine Run.seq ?_
    refine Run.region ?_
    refine Ops.ex (Ex.move rfl) rfl rfl rfl ?_
    refine Ops.ex (Ex.rem8 (a := p2) (b := 32) rfl rfl (by decide)) rfl rfl rfl ?_
    refine Ops.ex (Ex.cu8 rfl Try.underlying5 Try.underlying3) rfl rfl rfl ?_
    refine Ops.ex (Ex.assign rfl) rfl rfl rfl ?_
    refine Ops.nil ?_
    refine Run.seq ?_
    refine Run.region ?_
    refine Ops.loadAgg _ rfl Try.underlying27 rfl sz27 rfl (hst11.cells (i := 1) rfl 0 2) rfl ?_
    refine Ops.ex (Ex.move rfl) rfl rfl rfl ?_
    refine Ops.ex (Ex.move rfl) rfl rfl rfl ?_
    refine Ops.ex (Ex.ci8 rfl Try.underlying23 Try.underlying3) rfl rfl rfl ?_
    obtain ⟨y12, hy12, hf⟩ := bnd hf
    refine Ops.call rfl rfl Try.func12 (by kernel_rfl) (by kernel_rfl) rfl (go_plan_Of.walk (p0 := y7) (p1 := ((p2 % 32).toNat : Int)) (p2 := p3.toInt) (hst := hst11) (f1 := f8) (hf := hy12)) ?_
    rintro _ w12 ⟨z12, A13, A14, c14, A15, c15, rfl, hz12, f13, f14, f15, hst12⟩
    refine ⟨_, rfl, ?_⟩
    replace f1 := f1.mono hz12; replace f8 := f8.mono hz12
    replace hle0 := hle0.trans hz12
    refine Ops.ex (Ex.move rfl) rfl rfl rfl ?_
    refine Ops.ex (Ex.extract rfl rfl) rfl rfl rfl ?_
    refine Ops.ex (Ex.extract rfl rfl) rfl rfl rfl ?_
    refine Ops.allocF [.pointer none, .slice none 0 0, .slice none 0 0] hst12 zr31 rfl rfl (fun g17 w17 hst17 => ?_)
    refine Ops.store 1 [.pointer A13, .slice A14 y12.1.Deltas.length c14, .slice A15 y12.1.Parts.length c15] hst17 rfl rfl rfl rfl sz31 rfl (by simp [Value.oneCell']) (by simp) (fun w18 hst18 => ?_)
    refine Ops.ex (Ex.assign rfl) rfl rfl rfl ?_
    refine Ops.nil ?_
    refine Run.seq ?_
    refine Run.seq ?_
    refine Run.region ?_
    refine Ops.ex (Ex.move rfl) rfl rfl rfl ?_
    refine Ops.ex (Ex.neqI rfl rfl) rfl rfl rfl ?_
    refine Ops.nil ?_
    refine Run.cond rfl (fun hc => ?_) (fun hc => ?_)
    · replace hf := ifF (neq_T hc) hf
      refine Run.seq ?_
      refine Run.region ?_
      refine Ops.ex (Ex.move rfl) rfl rfl rfl ?_
      refine Ops.ex (Ex.eqlI rfl rfl) rfl rfl rfl ?_
      refine Ops.ex (Ex.assign rfl) rfl rfl rfl ?_
      refine Ops.nil ?_
      obtain rfl := Option.some.inj hf
      exact Run.retV [vb (decide (y12.2 = 9))] rfl ⟨rfl, trivial⟩ ⟨z12, rfl, hle0, (St.forget (St.forget hst18 2) 1)⟩
    · replace hf := ifT (neq_F hc) hf
      refine Run.skip ?_
      refine Run.seq ?_
      refine Run.region ?_
      refine Ops.ex (Ex.assign rfl) rfl rfl rfl ?_
      refine Ops.nil ?_
      refine Run.seq ?_
      refine Run.seq ?_
      refine Run.region ?_
      refine Ops.ex (Ex.fieldAddr rfl Try.underlying31 rfl sz29) rfl rfl rfl ?_
      refine Ops.load rfl Try.underlying29 rfl (hst18.cell (i := 1) rfl rfl) rfl ?_
      refine Ops.ex (Ex.neqP f13 rfl rfl Try.underlying29) rfl rfl rfl ?_
      refine Ops.nil ?_
      have hm25 := Le.refl z12
      apply Run.jn (fun e' w' => ∃ (x27 : Int) (z26 : Zp), go_law11_PlanLeads.j1 p2 p3 y12 x27 = some r ∧ e' = [(3, vi8 p3), (10, vi ((p2 % 32).toNat : Int)), (11, .pointer (some ⟨g17, 0, none⟩)), (13, vi x27)] ∧ Le z12 z26 ∧ Le z0 z26 ∧ Ht w0 (frz z26 :: (blk g17 [.pointer A13, .slice A14 y12.1.Deltas.length c14, .slice A15 y12.1.Parts.length c15] 31) :: X) w')
      · intro hj19
        refine Run.cond rfl (fun hc => ?_) (fun hc => ?_)
        · replace hf := ifF (neq_T hc) hf
          refine Run.region ?_
          refine Ops.ex (Ex.fieldAddr rfl Try.underlying31 rfl sz29) rfl rfl rfl ?_
          refine Ops.load rfl Try.underlying29 rfl (hst18.cell (i := 1) rfl rfl) rfl ?_
          obtain ⟨y28, hy28, hf⟩ := bnd hf
          obtain ⟨g28, o28, cs28, hA28, f28, hr28⟩ := f13.some hy28
          obtain rfl := hr28
          refine Ops.ex (Ex.nilP hA28 rfl) rfl rfl rfl ?_
          refine Ops.ex (Ex.fieldAddr rfl Try.underlying37 rfl sz3) rfl rfl rfl ?_
          refine Ops.load rfl Try.underlying3 rfl ((f28.mono hst18.le) 3 _ rfl) rfl ?_
          refine Ops.ex (Ex.assign rfl) rfl rfl rfl ?_
          refine Ops.nil ?_
          exact Run.sub (by exact subB_spec ⟨rfl, rfl, rfl, rfl, trivial⟩) (hj19 _ _ ⟨y28.To, z12, hf, rfl, hm25, hle0, (St.forget hst18 2)⟩)
        · replace hf := ifT (neq_F hc) hf
          refine Run.skip ?_
          exact Run.sub (by exact subB_spec ⟨rfl, rfl, rfl, rfl, trivial⟩) (hj19 _ _ ⟨0, z12, hf, rfl, hm25, hle0, (St.forget hst18 2)⟩)
      · rintro e' w33 ⟨x27, z26, hf, rfl, hz33, hy33_0, hst33⟩
        replace f13 := f13.mono hz33; replace f14 := f14.mono hz33; replace f15 := f15.mono hz33
        unfold go_law11_PlanLeads.j1 at hf
        refine Run.seq ?_
        refine Run.seq ?_
        refine Run.region ?_
        refine Ops.ex (Ex.fieldAddr rfl Try.underlying31 rfl sz25) rfl rfl rfl ?_
        refine Ops.load rfl Try.underlying25 rfl (hst33.cell (i := 1) rfl rfl) rfl ?_
        refine Ops.ex (Ex.len' rfl rfl rfl Try.underlying25) rfl rfl rfl ?_
        refine Ops.ex (Ex.move rfl) rfl rfl rfl ?_
        refine Ops.nil ?_
        refine Run.block ?_
        have hc34 := f14.cap
        have hm35 := Le.refl z26
        refine Run.sub (e' := [(3, vi8 p3), (10, vi ((p2 % 32).toNat : Int)), (11, .pointer (some ⟨g17, 0, none⟩)), (13, vi x27), (47, .slice A14 y12.1.Deltas.length c14), (48, vi (y12.1.Deltas.length : Int)), (49, vi ((0 : Nat) : Int))]) (subB_spec ⟨rfl, rfl, rfl, rfl, rfl, rfl, rfl, trivial⟩) ?_
        refine Run.loop (fun mb34 => (fun e' w' => ∃ (i34 : Nat) (x148 : Int) (z147 : Zp), mb34 = y12.1.Deltas.length - i34 ∧ i34 ≤ y12.1.Deltas.length ∧ forL (go_law11_PlanLeads.b1) (fun x148 => if p3.toInt < x148 then (some false) else (forL (go_law11_PlanLeads.b2 y12) (fun x189 => if p3.toInt ≤ ((p2 % 32).toNat : Int) then (if p3.toInt ≤ x189 then (some true) else (some (decide (0 < (y12.1.Parts.length : Int))))) else (some false)) 0 y12.1.Parts x148)) i34 (y12.1.Deltas.drop i34) x148 = some r ∧ e' = [(3, vi8 p3), (10, vi ((p2 % 32).toNat : Int)), (11, .pointer (some ⟨g17, 0, none⟩)), (13, vi x148), (47, .slice A14 y12.1.Deltas.length c14), (48, vi (y12.1.Deltas.length : Int)), (49, vi (i34 : Int))] ∧ Le z26 z147 ∧ Le z0 z147 ∧ Le z12 z147 ∧ Ht w0 (frz z147 :: (blk g17 [.pointer A13, .slice A14 y12.1.Deltas.length c14, .slice A15 y12.1.Parts.length c15] 31) :: X) w')) y12.1.Deltas.length ⟨0, x27, z26, rfl, Nat.zero_le _, hf, rfl, hm35, hy33_0, hz33, hst33⟩ ?_
        rintro _ e' w149 ⟨i34, x148, z147, rfl, hi34, hf, rfl, hz149, hy149_0, hy149_1, hst149⟩
        replace f14 := f14.mono hz149; replace f13 := f13.mono hz149; replace f15 := f15.mono hz149
        refine Run.seq ?_
        refine Run.region ?_
        refine Ops.ex (Ex.lss rfl rfl) rfl rfl rfl ?_
        refine Ops.nil ?_
        refine Run.seq ?_
        refine Run.cond rfl (fun hc => ?_) (fun hc => ?_)
        · have hl34 := lt_of_dec hc
          obtain ⟨a34, nxb34, ha34, hnxb34, hf⟩ := forL_in hf hl34
          unfold go_law11_PlanLeads.b1 at hf
          try dsimp only at hf
          refine Run.skip ?_
          refine Run.seq ?_
          refine Run.block ?_
          refine Run.seq ?_
          refine Run.region ?_
          obtain ⟨g154, p154, o154, cs154, hA154, ho154, hr154, f154⟩ := SlH.elem f14.toH (atI_nat ha34)
          obtain rfl := hr154
          refine Ops.ex (Ex.ixA hA154 ho154 (atI_nat ha34) rfl rfl rfl Try.underlying25 sz37) rfl rfl rfl ?_
          refine Ops.loadAgg [vs a34.Name, vi a34.Kind, vi a34.From, vi a34.To] rfl Try.underlying37 rfl sz37 rfl (cells_of_zc rfl (f154.mono hst149.le)) rfl ?_
          refine Ops.allocF [vs [], vi 0, vi 0, vi 0] hst149 zr37 rfl rfl (fun g155 w155 hst155 => ?_)
          refine Ops.store 1 [vs a34.Name, vi a34.Kind, vi a34.From, vi a34.To] hst155 rfl rfl rfl rfl sz37 rfl (by simp [Value.oneCell']) (by simp) (fun w156 hst156 => ?_)
          refine Ops.nil ?_
          refine Run.seq ?_
          refine Run.seq ?_
          refine Run.region ?_
          refine Ops.ex (Ex.fieldAddr rfl Try.underlying37 rfl sz35) rfl rfl rfl ?_
          refine Ops.load rfl Try.underlying35 rfl (hst156.cell (i := 1) rfl rfl) rfl ?_
          refine Ops.ex (Ex.neqI rfl rfl) rfl rfl rfl ?_
          refine Ops.ex (Ex.move rfl) rfl rfl rfl ?_
          refine Ops.case 56 rfl (fun hc => ?_) (fun hc => ?_)
          · replace hf := ifF (neq_T hc) hf
            refine Ops.off rfl rfl ?_
            refine Ops.off rfl rfl ?_
            refine Ops.off rfl rfl ?_
            refine Ops.off rfl rfl ?_
            refine Ops.ex (Ex.pickT rfl rfl) rfl rfl rfl ?_
            refine Ops.ex (Ex.move rfl) rfl rfl rfl ?_
            refine Ops.off rfl rfl ?_
            refine Ops.off rfl rfl ?_
            refine Ops.off rfl rfl ?_
            refine Ops.off rfl rfl ?_
            refine Ops.ex (Ex.pickT rfl rfl) rfl rfl rfl ?_
            refine Ops.nil ?_
            refine Run.condT rfl rfl ?_
            refine Run.seq ?_
            refine Run.region ?_
            refine Ops.ex (Ex.assign rfl) rfl rfl rfl ?_
            refine Ops.nil ?_
            obtain rfl := Option.some.inj hf
            exact Run.retV [vb false] rfl ⟨rfl, trivial⟩ ⟨z147, rfl, hy149_0, (St.forget (St.forget hst156 2) 1)⟩
          · replace hf := ifT (neq_F hc) hf
            refine Ops.on rfl ?_
            refine Ops.ex (Ex.fieldAddr rfl Try.underlying37 rfl sz3) rfl rfl rfl ?_
            refine Ops.on rfl ?_
            refine Ops.load rfl Try.underlying3 rfl (hst156.cell (i := 1) rfl rfl) rfl ?_
            refine Ops.on rfl ?_
            refine Ops.ex (Ex.move rfl) rfl rfl rfl ?_
            refine Ops.on rfl ?_
            refine Ops.ex (Ex.neqI rfl rfl) rfl rfl rfl ?_
            refine Ops.ex (Ex.pickF rfl rfl) rfl rfl rfl ?_
            refine Ops.ex (Ex.move rfl) rfl rfl rfl ?_
            refine Ops.case 62 rfl (fun hc => ?_) (fun hc => ?_)
            · replace hf := ifF (neq_T hc) hf
              refine Ops.off rfl rfl ?_
              refine Ops.off rfl rfl ?_
              refine Ops.off rfl rfl ?_
              refine Ops.off rfl rfl ?_
              refine Ops.ex (Ex.pickT rfl rfl) rfl rfl rfl ?_
              refine Ops.nil ?_
              refine Run.condT rfl rfl ?_
              refine Run.seq ?_
              refine Run.region ?_
              refine Ops.ex (Ex.assign rfl) rfl rfl rfl ?_
              refine Ops.nil ?_
              obtain rfl := Option.some.inj hf
              exact Run.retV [vb false] rfl ⟨rfl, trivial⟩ ⟨z147, rfl, hy149_0, (St.forget (St.forget hst156 2) 1)⟩
            · replace hf := ifT (neq_F hc) hf
              refine Ops.on rfl ?_
              refine Ops.ex (Ex.fieldAddr rfl Try.underlying37 rfl sz3) rfl rfl rfl ?_
              refine Ops.on rfl ?_
              refine Ops.load rfl Try.underlying3 rfl (hst156.cell (i := 1) rfl rfl) rfl ?_
              refine Ops.on rfl ?_
              refine Ops.ex (Ex.move rfl) rfl rfl rfl ?_
              refine Ops.on rfl ?_
              refine Ops.ex (Ex.leq rfl rfl) rfl rfl rfl ?_
              refine Ops.ex (Ex.pickF rfl rfl) rfl rfl rfl ?_
              refine Ops.nil ?_
              refine Run.cond rfl (fun hc => ?_) (fun hc => ?_)
              · replace hf := ifT (dec_T hc) hf
                refine Run.seq ?_
                refine Run.region ?_
                refine Ops.ex (Ex.assign rfl) rfl rfl rfl ?_
                refine Ops.nil ?_
                obtain rfl := Option.some.inj hf
                exact Run.retV [vb false] rfl ⟨rfl, trivial⟩ ⟨z147, rfl, hy149_0, (St.forget (St.forget hst156 2) 1)⟩
              · replace hf := ifF (dec_F hc) hf
                refine Run.skip ?_
                refine Run.region ?_
                refine Ops.ex (Ex.fieldAddr rfl Try.underlying37 rfl sz3) rfl rfl rfl ?_
                refine Ops.load rfl Try.underlying3 rfl (hst156.cell (i := 1) rfl rfl) rfl ?_
                refine Ops.ex (Ex.assign rfl) rfl rfl rfl ?_
                refine Ops.nil ?_
                refine Run.endBlk ?_
                refine Run.region ?_
                refine Ops.ex (Ex.add rfl rfl) rfl rfl rfl ?_
                refine Ops.ex (Ex.move rfl) rfl rfl rfl ?_
                refine Ops.nil ?_
                refine Run.re 49 rfl (congrArg vi (wr_succ' hl34 hc34)) ?_
                exact Run.sub (by exact subB_spec ⟨rfl, rfl, rfl, rfl, rfl, rfl, rfl, trivial⟩) (Run.stop ⟨y12.1.Deltas.length - (i34 + 1), by omega, i34 + 1, a34.To, z147, rfl, by omega, (hnxb34 _).symm.trans hf, rfl, hz149, hy149_0, hy149_1, (St.forget hst156 1)⟩)
        · replace hf := forL_out hf (nlt_of_dec hc)
          try dsimp only at hf
          refine Run.exit _ rfl ?_
          refine Run.seq ?_
          refine Run.seq ?_
          refine Run.region ?_
          refine Ops.ex (Ex.move rfl) rfl rfl rfl ?_
          refine Ops.ex (Ex.move rfl) rfl rfl rfl ?_
          refine Ops.ex (Ex.ci8 rfl Try.underlying23 Try.underlying3) rfl rfl rfl ?_
          refine Ops.ex (Ex.gtr rfl rfl) rfl rfl rfl ?_
          refine Ops.nil ?_
          refine Run.cond rfl (fun hc => ?_) (fun hc => ?_)
          · replace hf := ifT (dec_T hc) hf
            refine Run.seq ?_
            refine Run.region ?_
            refine Ops.ex (Ex.assign rfl) rfl rfl rfl ?_
            refine Ops.nil ?_
            obtain rfl := Option.some.inj hf
            exact Run.retV [vb false] rfl ⟨rfl, trivial⟩ ⟨z147, rfl, hy149_0, (St.forget hst149 1)⟩
          · replace hf := ifF (dec_F hc) hf
            refine Run.skip ?_
            refine Run.seq ?_
            refine Run.seq ?_
            refine Run.region ?_
            refine Ops.ex (Ex.fieldAddr rfl Try.underlying31 rfl sz25) rfl rfl rfl ?_
            refine Ops.load rfl Try.underlying25 rfl (hst149.cell (i := 1) rfl rfl) rfl ?_
            refine Ops.ex (Ex.len' rfl rfl rfl Try.underlying25) rfl rfl rfl ?_
            refine Ops.ex (Ex.move rfl) rfl rfl rfl ?_
            refine Ops.nil ?_
            refine Run.block ?_
            have hc157 := f15.cap
            have hm158 := Le.refl z147
            refine Run.sub (e' := [(3, vi8 p3), (10, vi ((p2 % 32).toNat : Int)), (11, .pointer (some ⟨g17, 0, none⟩)), (13, vi x148), (76, .slice A15 y12.1.Parts.length c15), (77, vi (y12.1.Parts.length : Int)), (78, vi ((0 : Nat) : Int))]) (subB_spec ⟨rfl, rfl, rfl, rfl, rfl, rfl, rfl, trivial⟩) ?_
            refine Run.loop (fun mb157 => (fun e' w' => ∃ (i157 : Nat) (x189 : Int) (z188 : Zp), mb157 = y12.1.Parts.length - i157 ∧ i157 ≤ y12.1.Parts.length ∧ forL (go_law11_PlanLeads.b2 y12) (fun x189 => if p3.toInt ≤ ((p2 % 32).toNat : Int) then (if p3.toInt ≤ x189 then (some true) else (some (decide (0 < (y12.1.Parts.length : Int))))) else (some false)) i157 (y12.1.Parts.drop i157) x189 = some r ∧ e' = [(3, vi8 p3), (10, vi ((p2 % 32).toNat : Int)), (11, .pointer (some ⟨g17, 0, none⟩)), (13, vi x189), (76, .slice A15 y12.1.Parts.length c15), (77, vi (y12.1.Parts.length : Int)), (78, vi (i157 : Int))] ∧ Le z147 z188 ∧ Le z0 z188 ∧ Le z12 z188 ∧ Le z26 z188 ∧ Ht w0 (frz z188 :: (blk g17 [.pointer A13, .slice A14 y12.1.Deltas.length c14, .slice A15 y12.1.Parts.length c15] 31) :: X) w')) y12.1.Parts.length ⟨0, x148, z147, rfl, Nat.zero_le _, hf, rfl, hm158, hy149_0, hy149_1, hz149, hst149⟩ ?_
            rintro _ e' w190 ⟨i157, x189, z188, rfl, hi157, hf, rfl, hz190, hy190_0, hy190_1, hy190_2, hst190⟩
            replace f15 := f15.mono hz190; replace f13 := f13.mono hz190; replace f14 := f14.mono hz190
            refine Run.seq ?_
            refine Run.region ?_
            refine Ops.ex (Ex.lss rfl rfl) rfl rfl rfl ?_
            refine Ops.nil ?_
            refine Run.seq ?_
            refine Run.cond rfl (fun hc => ?_) (fun hc => ?_)
            · have hl157 := lt_of_dec hc
              obtain ⟨a157, nxb157, ha157, hnxb157, hf⟩ := forL_in hf hl157
              unfold go_law11_PlanLeads.b2 at hf
              try dsimp only at hf
              refine Run.skip ?_
              refine Run.seq ?_
              refine Run.block ?_
              refine Run.seq ?_
              refine Run.region ?_
              refine Ops.ex (Ex.move rfl) rfl rfl rfl ?_
              obtain ⟨g195, p195, o195, cs195, hA195, ho195, hr195, f195⟩ := SlH.elem f15.toH (atI_nat ha157)
              obtain rfl := hr195
              refine Ops.ex (Ex.ixA hA195 ho195 (atI_nat ha157) rfl rfl rfl Try.underlying25 sz37) rfl rfl rfl ?_
              refine Ops.loadAgg [vs a157.Name, vi a157.Kind, vi a157.From, vi a157.To] rfl Try.underlying37 rfl sz37 rfl (cells_of_zc rfl (f195.mono hst190.le)) rfl ?_
              refine Ops.allocF [vs [], vi 0, vi 0, vi 0] hst190 zr37 rfl rfl (fun g196 w196 hst196 => ?_)
              refine Ops.ex (Ex.assign rfl) rfl rfl rfl ?_
              refine Ops.store 1 [vs a157.Name, vi a157.Kind, vi a157.From, vi a157.To] hst196 rfl rfl rfl rfl sz37 rfl (by simp [Value.oneCell']) (by simp) (fun w197 hst197 => ?_)
              refine Ops.nil ?_
              refine Run.seq ?_
              refine Run.seq ?_
              have hm199 := Le.refl z188
              apply Run.jn (fun e' w' => ∃ (b201 : Bool) (z200 : Zp), go_law11_PlanLeads.j2 x189 a157 nxb157 b201 = some r ∧ e' = [(3, vi8 p3), (10, vi ((p2 % 32).toNat : Int)), (11, .pointer (some ⟨g17, 0, none⟩)), (13, vi x189), (17, .pointer (some ⟨g196, 0, none⟩)), (76, .slice A15 y12.1.Parts.length c15), (77, vi (y12.1.Parts.length : Int)), (78, vi (i157 : Int)), (105, vb b201)] ∧ Le z188 z200 ∧ Le z0 z200 ∧ Le z12 z200 ∧ Le z26 z200 ∧ Le z147 z200 ∧ Ht w0 (frz z200 :: (blk g196 [vs a157.Name, vi a157.Kind, vi a157.From, vi a157.To] 37) :: (blk g17 [.pointer A13, .slice A14 y12.1.Deltas.length c14, .slice A15 y12.1.Parts.length c15] 31) :: X) w')
              · intro hj198
                refine Run.region ?_
                refine Ops.ex (Ex.fieldAddr rfl Try.underlying37 rfl sz35) rfl rfl rfl ?_
                refine Ops.load rfl Try.underlying35 rfl (hst197.cell (i := 1) rfl rfl) rfl ?_
                refine Ops.ex (Ex.neqI rfl rfl) rfl rfl rfl ?_
                refine Ops.ex (Ex.move rfl) rfl rfl rfl ?_
                refine Ops.case 86 rfl (fun hc => ?_) (fun hc => ?_)
                · replace hf := ifF (neq_T hc) hf
                  refine Ops.off rfl rfl ?_
                  refine Ops.off rfl rfl ?_
                  refine Ops.off rfl rfl ?_
                  refine Ops.off rfl rfl ?_
                  refine Ops.ex (Ex.pickT rfl rfl) rfl rfl rfl ?_
                  refine Ops.ex (Ex.move rfl) rfl rfl rfl ?_
                  refine Ops.off rfl rfl ?_
                  refine Ops.off rfl rfl ?_
                  refine Ops.off rfl rfl ?_
                  refine Ops.off rfl rfl ?_
                  refine Ops.off rfl rfl ?_
                  refine Ops.off rfl rfl ?_
                  refine Ops.off rfl rfl ?_
                  refine Ops.offU rfl rfl ?_
                  refine Ops.offU rfl rfl ?_
                  refine Ops.offU rfl rfl ?_
                  refine Ops.offU rfl rfl ?_
                  refine Ops.off rfl rfl ?_
                  refine Ops.ex (Ex.pickT rfl rfl) rfl rfl rfl ?_
                  refine Ops.nil ?_
                  exact Run.sub (by exact subB_spec ⟨rfl, rfl, rfl, rfl, rfl, rfl, rfl, rfl, rfl, trivial⟩) (hj198 _ _ ⟨true, z188, hf, rfl, hm199, hy190_0, hy190_1, hy190_2, hz190, hst197⟩)
                · replace hf := ifT (neq_F hc) hf
                  refine Ops.on rfl ?_
                  refine Ops.ex (Ex.fieldAddr rfl Try.underlying37 rfl sz3) rfl rfl rfl ?_
                  refine Ops.on rfl ?_
                  refine Ops.load rfl Try.underlying3 rfl (hst197.cell (i := 1) rfl rfl) rfl ?_
                  refine Ops.on rfl ?_
                  refine Ops.ex (Ex.move rfl) rfl rfl rfl ?_
                  refine Ops.on rfl ?_
                  refine Ops.ex (Ex.gtr rfl rfl) rfl rfl rfl ?_
                  refine Ops.ex (Ex.pickF rfl rfl) rfl rfl rfl ?_
                  refine Ops.ex (Ex.move rfl) rfl rfl rfl ?_
                  refine Ops.case 92 rfl (fun hc => ?_) (fun hc => ?_)
                  · replace hf := ifT (dec_T hc) hf
                    refine Ops.off rfl rfl ?_
                    refine Ops.off rfl rfl ?_
                    refine Ops.off rfl rfl ?_
                    refine Ops.off rfl rfl ?_
                    refine Ops.off rfl rfl ?_
                    refine Ops.off rfl rfl ?_
                    refine Ops.off rfl rfl ?_
                    refine Ops.offU rfl rfl ?_
                    refine Ops.offU rfl rfl ?_
                    refine Ops.offU rfl rfl ?_
                    refine Ops.offU rfl rfl ?_
                    refine Ops.off rfl rfl ?_
                    refine Ops.ex (Ex.pickT rfl rfl) rfl rfl rfl ?_
                    refine Ops.nil ?_
                    exact Run.sub (by exact subB_spec ⟨rfl, rfl, rfl, rfl, rfl, rfl, rfl, rfl, rfl, trivial⟩) (hj198 _ _ ⟨true, z188, hf, rfl, hm199, hy190_0, hy190_1, hy190_2, hz190, hst197⟩)
                  · replace hf := ifF (dec_F hc) hf
                    refine Ops.on rfl ?_
                    refine Ops.ex (Ex.move rfl) rfl rfl rfl ?_
                    refine Ops.on rfl ?_
                    refine Ops.ex (Ex.fieldAddr rfl Try.underlying31 rfl sz25) rfl rfl rfl ?_
                    refine Ops.on rfl ?_
                    refine Ops.load rfl Try.underlying25 rfl (hst197.cell (i := 2) rfl rfl) rfl ?_
                    refine Ops.on rfl ?_
                    refine Ops.ex (Ex.len' rfl rfl rfl Try.underlying25) rfl rfl rfl ?_
                    refine Ops.on rfl ?_
                    refine Ops.ex (Ex.sub rfl rfl) rfl rfl rfl ?_
                    refine Ops.on rfl ?_
                    refine Ops.ex (Ex.lss rfl rfl) rfl rfl rfl ?_
                    refine Ops.on rfl ?_
                    refine Ops.ex (Ex.move rfl) rfl rfl rfl ?_
                    refine Ops.case 99 rfl (fun hc => ?_) (fun hc => ?_)
                    · replace hf := ifT (dec_T hc) hf
                      refine Ops.on rfl ?_
                      refine Ops.ex (Ex.fieldAddr rfl Try.underlying37 rfl sz3) rfl rfl rfl ?_
                      refine Ops.on rfl ?_
                      refine Ops.load rfl Try.underlying3 rfl (hst197.cell (i := 1) rfl rfl) rfl ?_
                      refine Ops.on rfl ?_
                      refine Ops.ex (Ex.move rfl) rfl rfl rfl ?_
                      refine Ops.on rfl ?_
                      refine Ops.ex (Ex.leq rfl rfl) rfl rfl rfl ?_
                      refine Ops.on rfl ?_
                      refine Ops.ex (Ex.pickT rfl rfl) rfl rfl rfl ?_
                      refine Ops.ex (Ex.pickF rfl rfl) rfl rfl rfl ?_
                      refine Ops.nil ?_
                      exact Run.sub (by exact subB_spec ⟨rfl, rfl, rfl, rfl, rfl, rfl, rfl, rfl, rfl, trivial⟩) (hj198 _ _ ⟨decide (a157.To ≤ x189), z188, hf, rfl, hm199, hy190_0, hy190_1, hy190_2, hz190, hst197⟩)
                    · replace hf := ifF (dec_F hc) hf
                      refine Ops.off rfl rfl ?_
                      refine Ops.off rfl rfl ?_
                      refine Ops.off rfl rfl ?_
                      refine Ops.off rfl rfl ?_
                      refine Ops.on rfl ?_
                      refine Ops.ex (Ex.pickF rfl rfl) rfl rfl rfl ?_
                      refine Ops.ex (Ex.pickF rfl rfl) rfl rfl rfl ?_
                      refine Ops.nil ?_
                      exact Run.sub (by exact subB_spec ⟨rfl, rfl, rfl, rfl, rfl, rfl, rfl, rfl, rfl, trivial⟩) (hj198 _ _ ⟨false, z188, hf, rfl, hm199, hy190_0, hy190_1, hy190_2, hz190, hst197⟩)
              · rintro e' w202 ⟨b201, z200, hf, rfl, hz202, hy202_0, hy202_1, hy202_2, hy202_3, hst202⟩
                replace f15 := f15.mono hz202; replace f13 := f13.mono hz202; replace f14 := f14.mono hz202
                unfold go_law11_PlanLeads.j2 at hf
                refine Run.cond rfl (fun hc => ?_) (fun hc => ?_)
                · replace hf := ifTb hc hf
                  refine Run.seq ?_
                  refine Run.region ?_
                  refine Ops.ex (Ex.assign rfl) rfl rfl rfl ?_
                  refine Ops.nil ?_
                  obtain rfl := Option.some.inj hf
                  exact Run.retV [vb false] rfl ⟨rfl, trivial⟩ ⟨z200, rfl, hy202_0, (St.forget (St.forget hst202 2) 1)⟩
                · replace hf := ifFb hc hf
                  refine Run.skip ?_
                  refine Run.region ?_
                  refine Ops.ex (Ex.move rfl) rfl rfl rfl ?_
                  refine Ops.ex (Ex.fieldAddr rfl Try.underlying37 rfl sz3) rfl rfl rfl ?_
                  refine Ops.load rfl Try.underlying3 rfl (hst202.cell (i := 1) rfl rfl) rfl ?_
                  refine Ops.ex (Ex.max2 rfl rfl rfl) rfl rfl rfl ?_
                  refine Ops.ex (Ex.assign rfl) rfl rfl rfl ?_
                  refine Ops.nil ?_
                  refine Run.endBlk ?_
                  refine Run.region ?_
                  refine Ops.ex (Ex.add rfl rfl) rfl rfl rfl ?_
                  refine Ops.ex (Ex.move rfl) rfl rfl rfl ?_
                  refine Ops.nil ?_
                  refine Run.re 78 rfl (congrArg vi (wr_succ' hl157 hc157)) ?_
                  exact Run.sub (by exact subB_spec ⟨rfl, rfl, rfl, rfl, rfl, rfl, rfl, trivial⟩) (Run.stop ⟨y12.1.Parts.length - (i157 + 1), by omega, i157 + 1, max x189 a157.To, z200, rfl, by omega, (hnxb157 _).symm.trans hf, rfl, hy202_3, hy202_0, hy202_1, hy202_2, (St.forget hst202 1)⟩)
            · replace hf := forL_out hf (nlt_of_dec hc)
              try dsimp only at hf
              refine Run.exit _ rfl ?_
              refine Run.seq ?_
              refine Run.region ?_
              refine Ops.ex (Ex.move rfl) rfl rfl rfl ?_
              refine Ops.ex (Ex.ci8 rfl Try.underlying23 Try.underlying3) rfl rfl rfl ?_
              refine Ops.ex (Ex.move rfl) rfl rfl rfl ?_
              refine Ops.ex (Ex.leq rfl rfl) rfl rfl rfl ?_
              refine Ops.ex (Ex.move rfl) rfl rfl rfl ?_
              refine Ops.case 115 rfl (fun hc => ?_) (fun hc => ?_)
              · replace hf := ifT (dec_T hc) hf
                refine Ops.on rfl ?_
                refine Ops.ex (Ex.move rfl) rfl rfl rfl ?_
                refine Ops.on rfl ?_
                refine Ops.ex (Ex.move rfl) rfl rfl rfl ?_
                refine Ops.on rfl ?_
                refine Ops.ex (Ex.ci8 rfl Try.underlying23 Try.underlying3) rfl rfl rfl ?_
                refine Ops.on rfl ?_
                refine Ops.ex (Ex.geq rfl rfl) rfl rfl rfl ?_
                refine Ops.on rfl ?_
                refine Ops.ex (Ex.move rfl) rfl rfl rfl ?_
                refine Ops.case 120 rfl (fun hc => ?_) (fun hc => ?_)
                · replace hf := ifT (dec_T hc) hf
                  refine Ops.off rfl rfl ?_
                  refine Ops.off rfl rfl ?_
                  refine Ops.off rfl rfl ?_
                  refine Ops.off rfl rfl ?_
                  refine Ops.on rfl ?_
                  refine Ops.ex (Ex.pickT rfl rfl) rfl rfl rfl ?_
                  refine Ops.ex (Ex.pickT rfl rfl) rfl rfl rfl ?_
                  refine Ops.ex (Ex.assign rfl) rfl rfl rfl ?_
                  refine Ops.nil ?_
                  obtain rfl := Option.some.inj hf
                  exact Run.retV [vb true] rfl ⟨rfl, trivial⟩ ⟨z188, rfl, hy190_0, (St.forget hst190 1)⟩
                · replace hf := ifF (dec_F hc) hf
                  refine Ops.on rfl ?_
                  refine Ops.ex (Ex.fieldAddr rfl Try.underlying31 rfl sz25) rfl rfl rfl ?_
                  refine Ops.on rfl ?_
                  refine Ops.load rfl Try.underlying25 rfl (hst190.cell (i := 1) rfl rfl) rfl ?_
                  refine Ops.on rfl ?_
                  refine Ops.ex (Ex.len' rfl rfl rfl Try.underlying25) rfl rfl rfl ?_
                  refine Ops.on rfl ?_
                  refine Ops.ex (Ex.gtr rfl rfl) rfl rfl rfl ?_
                  refine Ops.on rfl ?_
                  refine Ops.ex (Ex.pickF rfl rfl) rfl rfl rfl ?_
                  refine Ops.ex (Ex.pickT rfl rfl) rfl rfl rfl ?_
                  refine Ops.ex (Ex.assign rfl) rfl rfl rfl ?_
                  refine Ops.nil ?_
                  obtain rfl := Option.some.inj hf
                  exact Run.retV [vb (decide (0 < (y12.1.Parts.length : Int)))] rfl ⟨rfl, trivial⟩ ⟨z188, rfl, hy190_0, (St.forget hst190 1)⟩
              · replace hf := ifF (dec_F hc) hf
                refine Ops.off rfl rfl ?_
                refine Ops.off rfl rfl ?_
                refine Ops.off rfl rfl ?_
                refine Ops.off rfl rfl ?_
                refine Ops.off rfl rfl ?_
                refine Ops.offU rfl rfl ?_
                refine Ops.offU rfl rfl ?_
                refine Ops.offU rfl rfl ?_
                refine Ops.offU rfl rfl ?_
                refine Ops.off rfl rfl ?_
                refine Ops.ex (Ex.pickF rfl rfl) rfl rfl rfl ?_
                refine Ops.ex (Ex.assign rfl) rfl rfl rfl ?_
                refine Ops.nil ?_
                obtain rfl := Option.some.inj hf
                exact Run.retV [vb false] rfl ⟨rfl, trivial⟩ ⟨z188, rfl, hy190_0, (St.forget hst190 1)⟩
def go_law11_PlanNone.b3 (i553 : Nat) (a553 : apiRef) : Int → (Int → Option Bool) → Option Bool :=
  fun x575 nxb553 => nxb553 a553.To
def go_law11_PlanNone.j1 (x527 : Int) (l528 : List apiRef) (nxb411 : (Int × List apiRef) → Option Bool) (y531 : planPlan × Int) (x546 : Int) : Option Bool :=
  forL (go_law11_PlanNone.b3) (fun x575 => if (y531.1.Parts.length : Int) = 0 then (if y531.2 = 0 then (if x575 = x527 then (nxb411 (wr (x527 + 1), l528)) else (some false)) else (nxb411 (wr (x527 + 1), l528))) else (some false)) 0 y531.1.Deltas x546
def go_law11_PlanNone.b2 (p2 : UInt8) (y6 : editsSet) : (Int × List apiRef) → (Int × List apiRef → Option Bool) → Option Bool :=
  fun (x527, l528) nxb411 => if x527 ≤ ((p2 % 32).toNat : Int) then ((go_plan_Of (⟨l528, y6.Floor⟩ : editsSet) ((p2 % 32).toNat : Int) x527).bind fun y531 => if y531.1.Full = none then (go_law11_PlanNone.j1 x527 l528 nxb411 y531 0) else ((y531.1.Full).bind fun y547 => go_law11_PlanNone.j1 x527 l528 nxb411 y531 y547.To)) else (some true)
def go_law11_PlanNone.b1 (i25 : Nat) (a25 : apiRef) : (List apiRef) → (List apiRef → Option Bool) → Option Bool :=
  fun l397 nxb25 => if a25.Kind = 2 then (nxb25 l397) else ((apB 40 l397 [a25]).bind fun l409 => nxb25 l409)
def go_law11_PlanNone (p0 : List law11Ref) (p1 : UInt8) (p2 : UInt8) : Option Bool :=
  (go_law11_awake).bind fun y4 => if y4 then ((go_law11_Set p0 p1).bind fun y6 => (go_plan_Of y6 ((p2 % 32).toNat : Int) (wr (y6.Floor - 1))).bind fun y11 => (go_plan_Of y6 ((p2 % 32).toNat : Int) (wr (((p2 % 32).toNat : Int) + 1))).bind fun y18 => if y11.2 = 9 then (if y18.2 = 9 then (forL (go_law11_PlanNone.b1) (fun l397 => loopF (go_law11_PlanNone.b2 p2 y6) fuel (y6.Floor, l397)) 0 y6.Refs []) else (some false)) else (some false)) else (some false)
set_option maxRecDepth 100000 in
set_option maxHeartbeats 4000000 in
theorem go_law11_PlanNone.walk {w0 w : World} {X : List Res} {z0 : Zp} {p0 : List law11Ref} {A1 : Option Addr} {c1 : Nat} {p1 : UInt8} {p2 : UInt8} {r : Bool} (hst : Ht w0 (frz z0 :: X) w) (f1 : Sl tlaw11Ref z0 A1 c1 p0) (hf : go_law11_PlanNone p0 p1 p2 = some r) :
    Calls Try.prog 5 #[.slice A1 p0.length c1, vu8 p1, vu8 p2] w fun e w' => ∃ (z' : Zp), e = .returned (vb r) ∧ Le z0 z' ∧ Ht w0 (frz z' :: X) w' := by
  refine calls_np Try.func5 rfl rfl ?_
  have hle0 := Le.refl z0
  unfold go_law11_PlanNone at hf
  refine Run.seq ?_
  refine Run.region ?_
  refine Ops.ex (Ex.assign rfl) rfl rfl rfl ?_
  refine Ops.nil ?_
  refine Run.seq ?_
  refine Run.seq ?_
  refine Run.region ?_
  obtain ⟨y4, hy4, hf⟩ := bnd hf
  refine Ops.call rfl rfl Try.func10 (by kernel_rfl) (by kernel_rfl) rfl (go_law11_awake.walk (hst := hst) (hf := hy4)) ?_
  rintro _ w4 ⟨z4, rfl, hz4, hst4⟩
  refine ⟨_, rfl, ?_⟩
  replace f1 := f1.mono hz4
  replace hle0 := hle0.trans hz4
  refine Ops.ex (Ex.not rfl) rfl rfl rfl ?_
  refine Ops.nil ?_
  refine Run.cond rfl (fun hc => ?_) (fun hc => ?_)
  · replace hf := ifFb (bn_T hc) hf
    refine Run.seq ?_
    refine Run.region ?_
    refine Ops.ex (Ex.assign rfl) rfl rfl rfl ?_
    refine Ops.nil ?_
    obtain rfl := Option.some.inj hf
    exact Run.retV [vb false] rfl ⟨rfl, trivial⟩ ⟨z4, rfl, hle0, hst4⟩
  · replace hf := ifTb (bn_F hc) hf
    refine Run.skip ?_
    refine Run.seq ?_
    refine Run.region ?_
    refine Ops.ex (Ex.move rfl) rfl rfl rfl ?_
    refine Ops.ex (Ex.move rfl) rfl rfl rfl ?_
    obtain ⟨y6, hy6, hf⟩ := bnd hf
    refine Ops.call rfl rfl Try.func11 (by kernel_rfl) (by kernel_rfl) rfl (go_law11_Set.walk (p0 := p0) (p1 := p1) (hst := hst4) (f1 := f1) (hf := hy6)) ?_
    rintro _ w6 ⟨z6, A7, c7, rfl, hz6, f7, hst6⟩
    refine ⟨_, rfl, ?_⟩
    replace f1 := f1.mono hz6
    replace hle0 := hle0.trans hz6
    refine Ops.allocF [.slice none 0 0, vi 0] hst6 zr27 rfl rfl (fun g9 w9 hst9 => ?_)
    refine Ops.store 1 [.slice A7 y6.Refs.length c7, vi y6.Floor] hst9 rfl rfl rfl rfl sz27 rfl (by simp [Value.oneCell']) (by simp) (fun w10 hst10 => ?_)
    refine Ops.nil ?_
    refine Run.seq ?_
    refine Run.region ?_
    refine Ops.ex (Ex.move rfl) rfl rfl rfl ?_
    refine Ops.ex (Ex.rem8 (a := p2) (b := 32) rfl rfl (by decide)) rfl rfl rfl ?_
    refine Ops.ex (Ex.cu8 rfl Try.underlying5 Try.underlying3) rfl rfl rfl ?_
    refine Ops.ex (Ex.assign rfl) rfl rfl rfl ?_
    refine Ops.nil ?_
    refine Run.seq ?_
    refine Run.region ?_
    refine Ops.loadAgg _ rfl Try.underlying27 rfl sz27 rfl (hst10.cells (i := 1) rfl 0 2) rfl ?_
    refine Ops.ex (Ex.move rfl) rfl rfl rfl ?_
    refine Ops.ex (Ex.fieldAddr rfl Try.underlying27 rfl sz3) rfl rfl rfl ?_
    refine Ops.load rfl Try.underlying3 rfl (hst10.cell (i := 1) rfl rfl) rfl ?_
    refine Ops.ex (Ex.sub rfl rfl) rfl rfl rfl ?_
    obtain ⟨y11, hy11, hf⟩ := bnd hf
    refine Ops.call rfl rfl Try.func12 (by kernel_rfl) (by kernel_rfl) rfl (go_plan_Of.walk (p0 := y6) (p1 := ((p2 % 32).toNat : Int)) (p2 := wr (y6.Floor - 1)) (hst := hst10) (f1 := f7) (hf := hy11)) ?_
    rintro _ w11 ⟨z11, A12, A13, c13, A14, c14, rfl, hz11, f12, f13, f14, hst11⟩
    refine ⟨_, rfl, ?_⟩
    replace f1 := f1.mono hz11; replace f7 := f7.mono hz11
    replace hle0 := hle0.trans hz11
    refine Ops.ex (Ex.move rfl) rfl rfl rfl ?_
    refine Ops.ex (Ex.extract rfl rfl) rfl rfl rfl ?_
    refine Ops.ex (Ex.extract rfl rfl) rfl rfl rfl ?_
    refine Ops.allocF [.pointer none, .slice none 0 0, .slice none 0 0] hst11 zr31 rfl rfl (fun g16 w16 hst16 => ?_)
    refine Ops.store 1 [.pointer A12, .slice A13 y11.1.Deltas.length c13, .slice A14 y11.1.Parts.length c14] hst16 rfl rfl rfl rfl sz31 rfl (by simp [Value.oneCell']) (by simp) (fun w17 hst17 => ?_)
    refine Ops.ex (Ex.assign rfl) rfl rfl rfl ?_
    refine Ops.nil ?_
    refine Run.seq ?_
    refine Run.region ?_
    refine Ops.loadAgg _ rfl Try.underlying27 rfl sz27 rfl (hst17.cells (i := 2) rfl 0 2) rfl ?_
    refine Ops.ex (Ex.move rfl) rfl rfl rfl ?_
    refine Ops.ex (Ex.move rfl) rfl rfl rfl ?_
    refine Ops.ex (Ex.add rfl rfl) rfl rfl rfl ?_
    obtain ⟨y18, hy18, hf⟩ := bnd hf
    refine Ops.call rfl rfl Try.func12 (by kernel_rfl) (by kernel_rfl) rfl (go_plan_Of.walk (p0 := y6) (p1 := ((p2 % 32).toNat : Int)) (p2 := wr (((p2 % 32).toNat : Int) + 1)) (hst := hst17) (f1 := f7) (hf := hy18)) ?_
    rintro _ w18 ⟨z18, A19, A20, c20, A21, c21, rfl, hz18, f19, f20, f21, hst18⟩
    refine ⟨_, rfl, ?_⟩
    replace f1 := f1.mono hz18; replace f7 := f7.mono hz18; replace f12 := f12.mono hz18; replace f13 := f13.mono hz18; replace f14 := f14.mono hz18
    replace hle0 := hle0.trans hz18
    refine Ops.ex (Ex.move rfl) rfl rfl rfl ?_
    refine Ops.ex (Ex.extract rfl rfl) rfl rfl rfl ?_
    refine Ops.ex (Ex.extract rfl rfl) rfl rfl rfl ?_
    refine Ops.allocF [.pointer none, .slice none 0 0, .slice none 0 0] hst18 zr31 rfl rfl (fun g23 w23 hst23 => ?_)
    refine Ops.store 1 [.pointer A19, .slice A20 y18.1.Deltas.length c20, .slice A21 y18.1.Parts.length c21] hst23 rfl rfl rfl rfl sz31 rfl (by simp [Value.oneCell']) (by simp) (fun w24 hst24 => ?_)
    refine Ops.ex (Ex.assign rfl) rfl rfl rfl ?_
    refine Ops.nil ?_
    refine Run.seq ?_
    refine Run.seq ?_
    refine Run.region ?_
    refine Ops.ex (Ex.move rfl) rfl rfl rfl ?_
    refine Ops.ex (Ex.neqI rfl rfl) rfl rfl rfl ?_
    refine Ops.ex (Ex.move rfl) rfl rfl rfl ?_
    refine Ops.case 49 rfl (fun hc => ?_) (fun hc => ?_)
    · replace hf := ifF (neq_T hc) hf
      refine Ops.off rfl rfl ?_
      refine Ops.off rfl rfl ?_
      refine Ops.ex (Ex.pickT rfl rfl) rfl rfl rfl ?_
      refine Ops.nil ?_
      refine Run.condT rfl rfl ?_
      refine Run.seq ?_
      refine Run.region ?_
      refine Ops.ex (Ex.assign rfl) rfl rfl rfl ?_
      refine Ops.nil ?_
      obtain rfl := Option.some.inj hf
      exact Run.retV [vb false] rfl ⟨rfl, trivial⟩ ⟨z18, rfl, hle0, (St.forget (St.forget (St.forget hst24 3) 2) 1)⟩
    · replace hf := ifT (neq_F hc) hf
      refine Ops.on rfl ?_
      refine Ops.ex (Ex.move rfl) rfl rfl rfl ?_
      refine Ops.on rfl ?_
      refine Ops.ex (Ex.neqI rfl rfl) rfl rfl rfl ?_
      refine Ops.ex (Ex.pickF rfl rfl) rfl rfl rfl ?_
      refine Ops.nil ?_
      refine Run.cond rfl (fun hc => ?_) (fun hc => ?_)
      · replace hf := ifF (neq_T hc) hf
        refine Run.seq ?_
        refine Run.region ?_
        refine Ops.ex (Ex.assign rfl) rfl rfl rfl ?_
        refine Ops.nil ?_
        obtain rfl := Option.some.inj hf
        exact Run.retV [vb false] rfl ⟨rfl, trivial⟩ ⟨z18, rfl, hle0, (St.forget (St.forget (St.forget hst24 3) 2) 1)⟩
      · replace hf := ifT (neq_F hc) hf
        refine Run.skip ?_
        refine Run.seq ?_
        refine Run.region ?_
        refine Ops.ex (Ex.assign rfl) rfl rfl rfl ?_
        refine Ops.nil ?_
        refine Run.seq ?_
        refine Run.seq ?_
        refine Run.region ?_
        refine Ops.ex (Ex.fieldAddr rfl Try.underlying27 rfl sz25) rfl rfl rfl ?_
        refine Ops.load rfl Try.underlying25 rfl (hst24.cell (i := 3) rfl rfl) rfl ?_
        refine Ops.ex (Ex.len' rfl rfl rfl Try.underlying25) rfl rfl rfl ?_
        refine Ops.ex (Ex.move rfl) rfl rfl rfl ?_
        refine Ops.nil ?_
        refine Run.block ?_
        have hc25 := f7.cap
        have hm26 := Le.refl z18
        have hst398 := hst24.row0 37 4
        refine Run.sub (e' := [(7, .pointer (some ⟨g9, 0, none⟩)), (8, vi ((p2 % 32).toNat : Int)), (13, .slice none 0 0), (54, .slice A7 y6.Refs.length c7), (55, vi (y6.Refs.length : Int)), (56, vi ((0 : Nat) : Int))]) (subB_spec ⟨rfl, rfl, rfl, rfl, rfl, rfl, trivial⟩) ?_
        refine Run.loop (fun mb25 => (fun e' w' => ∃ (i25 : Nat) (l397 : List apiRef) (A397 : Option Addr) (c397 : Nat) (d397 : List Value) (z396 : Zp), mb25 = y6.Refs.length - i25 ∧ i25 ≤ y6.Refs.length ∧ forL (go_law11_PlanNone.b1) (fun l397 => loopF (go_law11_PlanNone.b2 p2 y6) fuel (y6.Floor, l397)) i25 (y6.Refs.drop i25) l397 = some r ∧ e' = [(7, .pointer (some ⟨g9, 0, none⟩)), (8, vi ((p2 % 32).toNat : Int)), (13, .slice A397 l397.length c397), (54, .slice A7 y6.Refs.length c7), (55, vi (y6.Refs.length : Int)), (56, vi (i25 : Int))] ∧ Le z18 z396 ∧ Le z0 z396 ∧ Cs tapiRef z396 d397 l397 ∧ Ht w0 (frz z396 :: (orow 37 4 (.slice A397 l397.length c397) l397.length d397) :: (blk g9 [.slice A7 y6.Refs.length c7, vi y6.Floor] 27) :: X) w')) y6.Refs.length ⟨0, [], none, 0, [], z18, rfl, Nat.zero_le _, hf, rfl, hm26, hle0, (Cs.nil _ _), (St.forget (St.forget hst398 3) 2)⟩ ?_
        rintro _ e' w400 ⟨i25, l397, A397, c397, d397, z396, rfl, hi25, hf, rfl, hz400, hy400_0, f397, hst400⟩
        replace f7 := f7.mono hz400
        refine Run.seq ?_
        refine Run.region ?_
        refine Ops.ex (Ex.lss rfl rfl) rfl rfl rfl ?_
        refine Ops.nil ?_
        refine Run.seq ?_
        refine Run.cond rfl (fun hc => ?_) (fun hc => ?_)
        · have hl25 := lt_of_dec hc
          obtain ⟨a25, nxb25, ha25, hnxb25, hf⟩ := forL_in hf hl25
          unfold go_law11_PlanNone.b1 at hf
          try dsimp only at hf
          refine Run.skip ?_
          refine Run.seq ?_
          refine Run.block ?_
          refine Run.seq ?_
          refine Run.region ?_
          obtain ⟨g405, p405, o405, cs405, hA405, ho405, hr405, f405⟩ := SlH.elem f7.toH (atI_nat ha25)
          obtain rfl := hr405
          refine Ops.ex (Ex.ixA hA405 ho405 (atI_nat ha25) rfl rfl rfl Try.underlying25 sz37) rfl rfl rfl ?_
          refine Ops.loadAgg [vs a25.Name, vi a25.Kind, vi a25.From, vi a25.To] rfl Try.underlying37 rfl sz37 rfl (cells_of_zc rfl (f405.mono hst400.le)) rfl ?_
          refine Ops.allocF [vs [], vi 0, vi 0, vi 0] hst400 zr37 rfl rfl (fun g406 w406 hst406 => ?_)
          refine Ops.store 1 [vs a25.Name, vi a25.Kind, vi a25.From, vi a25.To] hst406 rfl rfl rfl rfl sz37 rfl (by simp [Value.oneCell']) (by simp) (fun w407 hst407 => ?_)
          refine Ops.nil ?_
          refine Run.seq ?_
          refine Run.region ?_
          refine Ops.ex (Ex.fieldAddr rfl Try.underlying37 rfl sz35) rfl rfl rfl ?_
          refine Ops.load rfl Try.underlying35 rfl (hst407.cell (i := 1) rfl rfl) rfl ?_
          refine Ops.ex (Ex.neqI rfl rfl) rfl rfl rfl ?_
          refine Ops.nil ?_
          refine Run.cond rfl (fun hc => ?_) (fun hc => ?_)
          · replace hf := ifF (neq_T hc) hf
            refine Run.region ?_
            refine Ops.ex (Ex.move rfl) rfl rfl rfl ?_
            refine Ops.loadAgg _ rfl Try.underlying37 rfl sz37 rfl (hst407.cells (i := 1) rfl 0 4) rfl ?_
            refine Ops.sliceF [vs a25.Name, vi a25.Kind, vi a25.From, vi a25.To] hst407 rfl Try.underlying25 sz37 zr37 rfl rfl (by kernel_rfl) rfl (by simp [Value.oneCell']) rfl (fun A408 w408 hst408 => ?_)
            have f408 : Cs tapiRef z396 [vs a25.Name, vi a25.Kind, vi a25.From, vi a25.To] [a25] := (Cs.cons (c := [vs a25.Name, vi a25.Kind, vi a25.From, vi a25.To]) rfl (Cs.nil _ _))
            obtain ⟨l409, hy409, hf⟩ := bnd hf
            refine Ops.app 3 hst408 rfl f397 rfl (own_slh f408 rfl (hst408.get (i := 1) rfl)) rfl hy409 rfl rfl rfl rfl Try.underlying25 inf37 rfl (by decide) (by decide) rfl (fun A409 c409 d409 w409 f409 hst409 => ?_)
            refine Ops.ex (Ex.assign rfl) rfl rfl rfl ?_
            refine Ops.nil ?_
            refine Run.endBlk ?_
            refine Run.region ?_
            refine Ops.ex (Ex.add rfl rfl) rfl rfl rfl ?_
            refine Ops.ex (Ex.move rfl) rfl rfl rfl ?_
            refine Ops.nil ?_
            refine Run.re 56 rfl (congrArg vi (wr_succ' hl25 hc25)) ?_
            exact Run.sub (by exact subB_spec ⟨rfl, rfl, rfl, rfl, rfl, rfl, trivial⟩) (Run.stop ⟨y6.Refs.length - (i25 + 1), by omega, i25 + 1, l409, A409, c409, d409, z396, rfl, by omega, (hnxb25 _).symm.trans hf, rfl, hz400, hy400_0, f409, (St.forget (St.forget hst409 2) 1)⟩)
          · replace hf := ifT (neq_F hc) hf
            refine Run.skip ?_
            refine Run.endBlk ?_
            refine Run.region ?_
            refine Ops.ex (Ex.add rfl rfl) rfl rfl rfl ?_
            refine Ops.ex (Ex.move rfl) rfl rfl rfl ?_
            refine Ops.nil ?_
            refine Run.re 56 rfl (congrArg vi (wr_succ' hl25 hc25)) ?_
            exact Run.sub (by exact subB_spec ⟨rfl, rfl, rfl, rfl, rfl, rfl, trivial⟩) (Run.stop ⟨y6.Refs.length - (i25 + 1), by omega, i25 + 1, l397, A397, c397, d397, z396, rfl, by omega, (hnxb25 _).symm.trans hf, rfl, hz400, hy400_0, f397, (St.forget hst407 1)⟩)
        · replace hf := forL_out hf (nlt_of_dec hc)
          try dsimp only at hf
          refine Run.exit _ rfl ?_
          refine Run.seq ?_
          refine Run.region ?_
          refine Ops.ex (Ex.move rfl) rfl rfl rfl ?_
          refine Ops.ex (Ex.fieldAddr rfl Try.underlying27 rfl sz25) rfl rfl rfl ?_
          refine Ops.store 2 [.slice A397 l397.length c397] hst400 rfl rfl rfl rfl sz25 rfl (by simp [Value.oneCell']) (by simp) (fun w410 hst410 => ?_)
          refine Ops.nil ?_
          refine Run.seq ?_
          refine Run.seq ?_
          refine Run.region ?_
          refine Ops.ex (Ex.fieldAddr rfl Try.underlying27 rfl sz3) rfl rfl rfl ?_
          refine Ops.load rfl Try.underlying3 rfl (hst410.cell (i := 2) rfl rfl) rfl ?_
          refine Ops.ex (Ex.assign rfl) rfl rfl rfl ?_
          refine Ops.nil ?_
          refine Run.block ?_
          have hm412 := Le.refl z396
          obtain ⟨z529, hz529, f529, hst529⟩ := St.freeze (τ := tapiRef) (xs := l397) hst410 f397 rfl
          replace f7 := f7.mono hz529
          replace hy400_0 := hy400_0.trans hz529
          replace hz400 := hz400.trans hz529
          replace hm412 := hm412.trans hz529
          refine Run.sub (e' := [(7, .pointer (some ⟨g9, 0, none⟩)), (8, vi ((p2 % 32).toNat : Int)), (16, vi y6.Floor)]) (subB_spec ⟨rfl, rfl, rfl, trivial⟩) ?_
          refine Run.loop (fun mb411 => (fun e' w' => ∃ (x527 : Int) (l528 : List apiRef) (A528 : Option Addr) (c528 : Nat) (z526 : Zp), loopF (go_law11_PlanNone.b2 p2 y6) mb411 (x527, l528) = some r ∧ e' = [(7, .pointer (some ⟨g9, 0, none⟩)), (8, vi ((p2 % 32).toNat : Int)), (16, vi x527)] ∧ Le z396 z526 ∧ Le z0 z526 ∧ Le z18 z526 ∧ Sl tapiRef z526 A528 c528 l528 ∧ Ht w0 (frz z526 :: (blk g9 [.slice A528 l528.length c528, vi y6.Floor] 27) :: X) w')) fuel ⟨y6.Floor, l397, A397, c397, z529, hf, rfl, hm412, hy400_0, hz400, f529, hst529⟩ ?_
          rintro mb411 e' w530 ⟨x527, l528, A528, c528, z526, hf, rfl, hz530, hy530_0, hy530_1, f528, hst530⟩
          obtain ⟨mb411', nxb411, rfl, hnxb411, hf⟩ := loopF_in hf
          unfold go_law11_PlanNone.b2 at hf
          try dsimp only at hf
          refine Run.seq ?_
          refine Run.seq ?_
          refine Run.region ?_
          refine Ops.ex (Ex.move rfl) rfl rfl rfl ?_
          refine Ops.ex (Ex.move rfl) rfl rfl rfl ?_
          refine Ops.ex (Ex.leq rfl rfl) rfl rfl rfl ?_
          refine Ops.nil ?_
          refine Run.cond rfl (fun hc => ?_) (fun hc => ?_)
          · replace hf := ifT (dec_T hc) hf
            refine Run.skip ?_
            refine Run.seq ?_
            refine Run.block ?_
            refine Run.seq ?_
            refine Run.region ?_
            refine Ops.loadAgg _ rfl Try.underlying27 rfl sz27 rfl (hst530.cells (i := 1) rfl 0 2) rfl ?_
            refine Ops.ex (Ex.move rfl) rfl rfl rfl ?_
            refine Ops.ex (Ex.move rfl) rfl rfl rfl ?_
            obtain ⟨y531, hy531, hf⟩ := bnd hf
            refine Ops.call rfl rfl Try.func12 (by kernel_rfl) (by kernel_rfl) rfl (go_plan_Of.walk (p0 := (⟨l528, y6.Floor⟩ : editsSet)) (p1 := ((p2 % 32).toNat : Int)) (p2 := x527) (hst := hst530) (f1 := f528) (hf := hy531)) ?_
            rintro _ w531 ⟨z531, A532, A533, c533, A534, c534, rfl, hz531, f532, f533, f534, hst531⟩
            refine ⟨_, rfl, ?_⟩
            replace f528 := f528.mono hz531
            replace hy530_0 := hy530_0.trans hz531
            replace hy530_1 := hy530_1.trans hz531
            replace hz530 := hz530.trans hz531
            refine Ops.ex (Ex.move rfl) rfl rfl rfl ?_
            refine Ops.ex (Ex.extract rfl rfl) rfl rfl rfl ?_
            refine Ops.ex (Ex.extract rfl rfl) rfl rfl rfl ?_
            refine Ops.allocF [.pointer none, .slice none 0 0, .slice none 0 0] hst531 zr31 rfl rfl (fun g536 w536 hst536 => ?_)
            refine Ops.store 1 [.pointer A532, .slice A533 y531.1.Deltas.length c533, .slice A534 y531.1.Parts.length c534] hst536 rfl rfl rfl rfl sz31 rfl (by simp [Value.oneCell']) (by simp) (fun w537 hst537 => ?_)
            refine Ops.ex (Ex.assign rfl) rfl rfl rfl ?_
            refine Ops.nil ?_
            refine Run.seq ?_
            refine Run.region ?_
            refine Ops.ex (Ex.assign rfl) rfl rfl rfl ?_
            refine Ops.nil ?_
            refine Run.seq ?_
            refine Run.seq ?_
            refine Run.region ?_
            refine Ops.ex (Ex.fieldAddr rfl Try.underlying31 rfl sz29) rfl rfl rfl ?_
            refine Ops.load rfl Try.underlying29 rfl (hst537.cell (i := 1) rfl rfl) rfl ?_
            refine Ops.ex (Ex.neqP f532 rfl rfl Try.underlying29) rfl rfl rfl ?_
            refine Ops.nil ?_
            have hm544 := Le.refl z531
            apply Run.jn (fun e' w' => ∃ (x546 : Int) (z545 : Zp), go_law11_PlanNone.j1 x527 l528 nxb411 y531 x546 = some r ∧ e' = [(7, .pointer (some ⟨g9, 0, none⟩)), (8, vi ((p2 % 32).toNat : Int)), (16, vi x527), (17, .pointer (some ⟨g536, 0, none⟩)), (18, vi y531.2), (19, vi x546)] ∧ Le z531 z545 ∧ Le z0 z545 ∧ Le z18 z545 ∧ Le z396 z545 ∧ Ht w0 (frz z545 :: (blk g536 [.pointer A532, .slice A533 y531.1.Deltas.length c533, .slice A534 y531.1.Parts.length c534] 31) :: (blk g9 [.slice A528 l528.length c528, vi y6.Floor] 27) :: X) w')
            · intro hj538
              refine Run.cond rfl (fun hc => ?_) (fun hc => ?_)
              · replace hf := ifF (neq_T hc) hf
                refine Run.region ?_
                refine Ops.ex (Ex.fieldAddr rfl Try.underlying31 rfl sz29) rfl rfl rfl ?_
                refine Ops.load rfl Try.underlying29 rfl (hst537.cell (i := 1) rfl rfl) rfl ?_
                obtain ⟨y547, hy547, hf⟩ := bnd hf
                obtain ⟨g547, o547, cs547, hA547, f547, hr547⟩ := f532.some hy547
                obtain rfl := hr547
                refine Ops.ex (Ex.nilP hA547 rfl) rfl rfl rfl ?_
                refine Ops.ex (Ex.fieldAddr rfl Try.underlying37 rfl sz3) rfl rfl rfl ?_
                refine Ops.load rfl Try.underlying3 rfl ((f547.mono hst537.le) 3 _ rfl) rfl ?_
                refine Ops.ex (Ex.assign rfl) rfl rfl rfl ?_
                refine Ops.nil ?_
                exact Run.sub (by exact subB_spec ⟨rfl, rfl, rfl, rfl, rfl, rfl, trivial⟩) (hj538 _ _ ⟨y547.To, z531, hf, rfl, hm544, hy530_0, hy530_1, hz530, hst537⟩)
              · replace hf := ifT (neq_F hc) hf
                refine Run.skip ?_
                exact Run.sub (by exact subB_spec ⟨rfl, rfl, rfl, rfl, rfl, rfl, trivial⟩) (hj538 _ _ ⟨0, z531, hf, rfl, hm544, hy530_0, hy530_1, hz530, hst537⟩)
            · rintro e' w552 ⟨x546, z545, hf, rfl, hz552, hy552_0, hy552_1, hy552_2, hst552⟩
              replace f532 := f532.mono hz552; replace f533 := f533.mono hz552; replace f534 := f534.mono hz552; replace f528 := f528.mono hz552
              unfold go_law11_PlanNone.j1 at hf
              refine Run.seq ?_
              refine Run.seq ?_
              refine Run.region ?_
              refine Ops.ex (Ex.fieldAddr rfl Try.underlying31 rfl sz25) rfl rfl rfl ?_
              refine Ops.load rfl Try.underlying25 rfl (hst552.cell (i := 1) rfl rfl) rfl ?_
              refine Ops.ex (Ex.len' rfl rfl rfl Try.underlying25) rfl rfl rfl ?_
              refine Ops.ex (Ex.move rfl) rfl rfl rfl ?_
              refine Ops.nil ?_
              refine Run.block ?_
              have hc553 := f533.cap
              have hm554 := Le.refl z545
              refine Run.sub (e' := [(7, .pointer (some ⟨g9, 0, none⟩)), (8, vi ((p2 % 32).toNat : Int)), (16, vi x527), (17, .pointer (some ⟨g536, 0, none⟩)), (18, vi y531.2), (19, vi x546), (93, .slice A533 y531.1.Deltas.length c533), (94, vi (y531.1.Deltas.length : Int)), (95, vi ((0 : Nat) : Int))]) (subB_spec ⟨rfl, rfl, rfl, rfl, rfl, rfl, rfl, rfl, rfl, trivial⟩) ?_
              refine Run.loop (fun mb553 => (fun e' w' => ∃ (i553 : Nat) (x575 : Int) (z574 : Zp), mb553 = y531.1.Deltas.length - i553 ∧ i553 ≤ y531.1.Deltas.length ∧ forL (go_law11_PlanNone.b3) (fun x575 => if (y531.1.Parts.length : Int) = 0 then (if y531.2 = 0 then (if x575 = x527 then (nxb411 (wr (x527 + 1), l528)) else (some false)) else (nxb411 (wr (x527 + 1), l528))) else (some false)) i553 (y531.1.Deltas.drop i553) x575 = some r ∧ e' = [(7, .pointer (some ⟨g9, 0, none⟩)), (8, vi ((p2 % 32).toNat : Int)), (16, vi x527), (17, .pointer (some ⟨g536, 0, none⟩)), (18, vi y531.2), (19, vi x575), (93, .slice A533 y531.1.Deltas.length c533), (94, vi (y531.1.Deltas.length : Int)), (95, vi (i553 : Int))] ∧ Le z545 z574 ∧ Le z0 z574 ∧ Le z18 z574 ∧ Le z396 z574 ∧ Le z531 z574 ∧ Ht w0 (frz z574 :: (blk g536 [.pointer A532, .slice A533 y531.1.Deltas.length c533, .slice A534 y531.1.Parts.length c534] 31) :: (blk g9 [.slice A528 l528.length c528, vi y6.Floor] 27) :: X) w')) y531.1.Deltas.length ⟨0, x546, z545, rfl, Nat.zero_le _, hf, rfl, hm554, hy552_0, hy552_1, hy552_2, hz552, hst552⟩ ?_
              rintro _ e' w576 ⟨i553, x575, z574, rfl, hi553, hf, rfl, hz576, hy576_0, hy576_1, hy576_2, hy576_3, hst576⟩
              replace f533 := f533.mono hz576; replace f532 := f532.mono hz576; replace f534 := f534.mono hz576; replace f528 := f528.mono hz576
              refine Run.seq ?_
              refine Run.region ?_
              refine Ops.ex (Ex.lss rfl rfl) rfl rfl rfl ?_
              refine Ops.nil ?_
              refine Run.seq ?_
              refine Run.cond rfl (fun hc => ?_) (fun hc => ?_)
              · have hl553 := lt_of_dec hc
                obtain ⟨a553, nxb553, ha553, hnxb553, hf⟩ := forL_in hf hl553
                unfold go_law11_PlanNone.b3 at hf
                try dsimp only at hf
                refine Run.skip ?_
                refine Run.seq ?_
                refine Run.block ?_
                refine Run.seq ?_
                refine Run.region ?_
                obtain ⟨g581, p581, o581, cs581, hA581, ho581, hr581, f581⟩ := SlH.elem f533.toH (atI_nat ha553)
                obtain rfl := hr581
                refine Ops.ex (Ex.ixA hA581 ho581 (atI_nat ha553) rfl rfl rfl Try.underlying25 sz37) rfl rfl rfl ?_
                refine Ops.loadAgg [vs a553.Name, vi a553.Kind, vi a553.From, vi a553.To] rfl Try.underlying37 rfl sz37 rfl (cells_of_zc rfl (f581.mono hst576.le)) rfl ?_
                refine Ops.allocF [vs [], vi 0, vi 0, vi 0] hst576 zr37 rfl rfl (fun g582 w582 hst582 => ?_)
                refine Ops.store 1 [vs a553.Name, vi a553.Kind, vi a553.From, vi a553.To] hst582 rfl rfl rfl rfl sz37 rfl (by simp [Value.oneCell']) (by simp) (fun w583 hst583 => ?_)
                refine Ops.nil ?_
                refine Run.region ?_
                refine Ops.ex (Ex.fieldAddr rfl Try.underlying37 rfl sz3) rfl rfl rfl ?_
                refine Ops.load rfl Try.underlying3 rfl (hst583.cell (i := 1) rfl rfl) rfl ?_
                refine Ops.ex (Ex.assign rfl) rfl rfl rfl ?_
                refine Ops.nil ?_
                refine Run.endBlk ?_
                refine Run.region ?_
                refine Ops.ex (Ex.add rfl rfl) rfl rfl rfl ?_
                refine Ops.ex (Ex.move rfl) rfl rfl rfl ?_
                refine Ops.nil ?_
                refine Run.re 95 rfl (congrArg vi (wr_succ' hl553 hc553)) ?_
                exact Run.sub (by exact subB_spec ⟨rfl, rfl, rfl, rfl, rfl, rfl, rfl, rfl, rfl, trivial⟩) (Run.stop ⟨y531.1.Deltas.length - (i553 + 1), by omega, i553 + 1, a553.To, z574, rfl, by omega, (hnxb553 _).symm.trans hf, rfl, hz576, hy576_0, hy576_1, hy576_2, hy576_3, (St.forget hst583 1)⟩)
              · replace hf := forL_out hf (nlt_of_dec hc)
                try dsimp only at hf
                refine Run.exit _ rfl ?_
                refine Run.seq ?_
                refine Run.region ?_
                refine Ops.ex (Ex.fieldAddr rfl Try.underlying31 rfl sz25) rfl rfl rfl ?_
                refine Ops.load rfl Try.underlying25 rfl (hst576.cell (i := 1) rfl rfl) rfl ?_
                refine Ops.ex (Ex.len' rfl rfl rfl Try.underlying25) rfl rfl rfl ?_
                refine Ops.ex (Ex.neqI rfl rfl) rfl rfl rfl ?_
                refine Ops.ex (Ex.move rfl) rfl rfl rfl ?_
                refine Ops.case 106 rfl (fun hc => ?_) (fun hc => ?_)
                · replace hf := ifF (neq_T hc) hf
                  refine Ops.off rfl rfl ?_
                  refine Ops.off rfl rfl ?_
                  refine Ops.off rfl rfl ?_
                  refine Ops.offU rfl rfl ?_
                  refine Ops.offU rfl rfl ?_
                  refine Ops.offU rfl rfl ?_
                  refine Ops.off rfl rfl ?_
                  refine Ops.ex (Ex.pickT rfl rfl) rfl rfl rfl ?_
                  refine Ops.nil ?_
                  refine Run.condT rfl rfl ?_
                  refine Run.seq ?_
                  refine Run.region ?_
                  refine Ops.ex (Ex.assign rfl) rfl rfl rfl ?_
                  refine Ops.nil ?_
                  obtain rfl := Option.some.inj hf
                  exact Run.retV [vb false] rfl ⟨rfl, trivial⟩ ⟨z574, rfl, hy576_0, (St.forget (St.forget hst576 2) 1)⟩
                · replace hf := ifT (neq_F hc) hf
                  refine Ops.on rfl ?_
                  refine Ops.ex (Ex.move rfl) rfl rfl rfl ?_
                  refine Ops.on rfl ?_
                  refine Ops.ex (Ex.eqlI rfl rfl) rfl rfl rfl ?_
                  refine Ops.on rfl ?_
                  refine Ops.ex (Ex.move rfl) rfl rfl rfl ?_
                  refine Ops.case 109 rfl (fun hc => ?_) (fun hc => ?_)
                  · replace hf := ifT (dec_T hc) hf
                    refine Ops.on rfl ?_
                    refine Ops.ex (Ex.move rfl) rfl rfl rfl ?_
                    refine Ops.on rfl ?_
                    refine Ops.ex (Ex.move rfl) rfl rfl rfl ?_
                    refine Ops.on rfl ?_
                    refine Ops.ex (Ex.neqI rfl rfl) rfl rfl rfl ?_
                    refine Ops.on rfl ?_
                    refine Ops.ex (Ex.pickT rfl rfl) rfl rfl rfl ?_
                    refine Ops.ex (Ex.pickF rfl rfl) rfl rfl rfl ?_
                    refine Ops.nil ?_
                    refine Run.cond rfl (fun hc => ?_) (fun hc => ?_)
                    · replace hf := ifF (neq_T hc) hf
                      refine Run.seq ?_
                      refine Run.region ?_
                      refine Ops.ex (Ex.assign rfl) rfl rfl rfl ?_
                      refine Ops.nil ?_
                      obtain rfl := Option.some.inj hf
                      exact Run.retV [vb false] rfl ⟨rfl, trivial⟩ ⟨z574, rfl, hy576_0, (St.forget (St.forget hst576 2) 1)⟩
                    · replace hf := ifT (neq_F hc) hf
                      refine Run.skip ?_
                      refine Run.endBlk ?_
                      refine Run.region ?_
                      refine Ops.ex (Ex.move rfl) rfl rfl rfl ?_
                      refine Ops.ex (Ex.add rfl rfl) rfl rfl rfl ?_
                      refine Ops.ex (Ex.assign rfl) rfl rfl rfl ?_
                      refine Ops.nil ?_
                      exact Run.sub (by exact subB_spec ⟨rfl, rfl, rfl, trivial⟩) (Run.stop ⟨mb411', Nat.lt_succ_self _, wr (x527 + 1), l528, A528, c528, z574, (hnxb411 _).symm.trans hf, rfl, hy576_2, hy576_0, hy576_1, f528, (St.forget hst576 1)⟩)
                  · replace hf := ifF (dec_F hc) hf
                    refine Ops.off rfl rfl ?_
                    refine Ops.off rfl rfl ?_
                    refine Ops.off rfl rfl ?_
                    refine Ops.on rfl ?_
                    refine Ops.ex (Ex.pickF rfl rfl) rfl rfl rfl ?_
                    refine Ops.ex (Ex.pickF rfl rfl) rfl rfl rfl ?_
                    refine Ops.nil ?_
                    refine Run.condF rfl rfl ?_
                    refine Run.skip ?_
                    refine Run.endBlk ?_
                    refine Run.region ?_
                    refine Ops.ex (Ex.move rfl) rfl rfl rfl ?_
                    refine Ops.ex (Ex.add rfl rfl) rfl rfl rfl ?_
                    refine Ops.ex (Ex.assign rfl) rfl rfl rfl ?_
                    refine Ops.nil ?_
                    exact Run.sub (by exact subB_spec ⟨rfl, rfl, rfl, trivial⟩) (Run.stop ⟨mb411', Nat.lt_succ_self _, wr (x527 + 1), l528, A528, c528, z574, (hnxb411 _).symm.trans hf, rfl, hy576_2, hy576_0, hy576_1, f528, (St.forget hst576 1)⟩)
          · replace hf := ifF (dec_F hc) hf
            refine Run.exit _ rfl ?_
            refine Run.seq ?_
            refine Run.region ?_
            refine Ops.ex (Ex.assign rfl) rfl rfl rfl ?_
            refine Ops.nil ?_
            obtain rfl := Option.some.inj hf
            exact Run.retV [vb true] rfl ⟨rfl, trivial⟩ ⟨z526, rfl, hy530_0, (St.forget hst530 1)⟩
def go_law11_PlanFloor (p0 : List law11Ref) (p1 : UInt8) (p2 : UInt8) (p3 : UInt8) (p4 : UInt8) : Option Bool :=
  (go_law11_awake).bind fun y6 => if y6 then ((go_law11_Set p0 p1).bind fun y8 => (go_plan_Of y8 ((p2 % 32).toNat : Int) ((p3 % 32).toNat : Int)).bind fun y16 => (go_plan_Of (⟨y8.Refs, wr (y8.Floor + ((p4 % 9).toNat : Int))⟩ : editsSet) ((p2 % 32).toNat : Int) ((p3 % 32).toNat : Int)).bind fun y23 => if ((p3 % 32).toNat : Int) < wr (y8.Floor + ((p4 % 9).toNat : Int)) then (some (decide (y23.2 = 9))) else (if y16.2 = y23.2 then ((go_law11_refs y16.1.Deltas y23.1.Deltas).bind fun y30 => if y30 then ((go_law11_refs y16.1.Parts y23.1.Parts).bind fun y32 => if y32 then (some (decide ((decide (y16.1.Full = none)) = (decide (y23.1.Full = none))))) else (some false)) else (some false)) else (some false))) else (some false)
set_option maxRecDepth 100000 in
set_option maxHeartbeats 4000000 in
theorem go_law11_PlanFloor.walk {w0 w : World} {X : List Res} {z0 : Zp} {p0 : List law11Ref} {A1 : Option Addr} {c1 : Nat} {p1 : UInt8} {p2 : UInt8} {p3 : UInt8} {p4 : UInt8} {r : Bool} (hst : Ht w0 (frz z0 :: X) w) (f1 : Sl tlaw11Ref z0 A1 c1 p0) (hf : go_law11_PlanFloor p0 p1 p2 p3 p4 = some r) :
    Calls Try.prog 6 #[.slice A1 p0.length c1, vu8 p1, vu8 p2, vu8 p3, vu8 p4] w fun e w' => ∃ (z' : Zp), e = .returned (vb r) ∧ Le z0 z' ∧ Ht w0 (frz z' :: X) w' := by
  refine calls_np Try.func6 rfl rfl ?_
  have hle0 := Le.refl z0
  unfold go_law11_PlanFloor at hf
  refine Run.seq ?_
  refine Run.region ?_
  refine Ops.ex (Ex.assign rfl) rfl rfl rfl ?_
  refine Ops.nil ?_
  refine Run.seq ?_
  refine Run.seq ?_
  refine Run.region ?_
  obtain ⟨y6, hy6, hf⟩ := bnd hf
  refine Ops.call rfl rfl Try.func10 (by kernel_rfl) (by kernel_rfl) rfl (go_law11_awake.walk (hst := hst) (hf := hy6)) ?_
  rintro _ w6 ⟨z6, rfl, hz6, hst6⟩
  refine ⟨_, rfl, ?_⟩
  replace f1 := f1.mono hz6
  replace hle0 := hle0.trans hz6
  refine Ops.ex (Ex.not rfl) rfl rfl rfl ?_
  refine Ops.nil ?_
  refine Run.cond rfl (fun hc => ?_) (fun hc => ?_)
  · replace hf := ifFb (bn_T hc) hf
    refine Run.seq ?_
    refine Run.region ?_
    refine Ops.ex (Ex.assign rfl) rfl rfl rfl ?_
    refine Ops.nil ?_
    obtain rfl := Option.some.inj hf
    exact Run.retV [vb false] rfl ⟨rfl, trivial⟩ ⟨z6, rfl, hle0, hst6⟩
  · replace hf := ifTb (bn_F hc) hf
    refine Run.skip ?_
    refine Run.seq ?_
    refine Run.region ?_
    refine Ops.ex (Ex.move rfl) rfl rfl rfl ?_
    refine Ops.ex (Ex.move rfl) rfl rfl rfl ?_
    obtain ⟨y8, hy8, hf⟩ := bnd hf
    refine Ops.call rfl rfl Try.func11 (by kernel_rfl) (by kernel_rfl) rfl (go_law11_Set.walk (p0 := p0) (p1 := p1) (hst := hst6) (f1 := f1) (hf := hy8)) ?_
    rintro _ w8 ⟨z8, A9, c9, rfl, hz8, f9, hst8⟩
    refine ⟨_, rfl, ?_⟩
    replace f1 := f1.mono hz8
    replace hle0 := hle0.trans hz8
    refine Ops.allocF [.slice none 0 0, vi 0] hst8 zr27 rfl rfl (fun g11 w11 hst11 => ?_)
    refine Ops.store 1 [.slice A9 y8.Refs.length c9, vi y8.Floor] hst11 rfl rfl rfl rfl sz27 rfl (by simp [Value.oneCell']) (by simp) (fun w12 hst12 => ?_)
    refine Ops.nil ?_
    refine Run.seq ?_
    refine Run.region ?_
    refine Ops.ex (Ex.move rfl) rfl rfl rfl ?_
    refine Ops.ex (Ex.rem8 (a := p2) (b := 32) rfl rfl (by decide)) rfl rfl rfl ?_
    refine Ops.ex (Ex.cu8 rfl Try.underlying5 Try.underlying3) rfl rfl rfl ?_
    refine Ops.ex (Ex.move rfl) rfl rfl rfl ?_
    refine Ops.ex (Ex.rem8 (a := p3) (b := 32) rfl rfl (by decide)) rfl rfl rfl ?_
    refine Ops.ex (Ex.cu8 rfl Try.underlying5 Try.underlying3) rfl rfl rfl ?_
    refine Ops.ex (Ex.assign rfl) rfl rfl rfl ?_
    refine Ops.ex (Ex.assign rfl) rfl rfl rfl ?_
    refine Ops.nil ?_
    refine Run.seq ?_
    refine Run.region ?_
    refine Ops.loadAgg _ rfl Try.underlying27 rfl sz27 rfl (hst12.cells (i := 1) rfl 0 2) rfl ?_
    refine Ops.allocF [.slice none 0 0, vi 0] hst12 zr27 rfl rfl (fun g13 w13 hst13 => ?_)
    refine Ops.store 1 [.slice A9 y8.Refs.length c9, vi y8.Floor] hst13 rfl rfl rfl rfl sz27 rfl (by simp [Value.oneCell']) (by simp) (fun w14 hst14 => ?_)
    refine Ops.nil ?_
    refine Run.seq ?_
    refine Run.region ?_
    refine Ops.ex (Ex.fieldAddr rfl Try.underlying27 rfl sz3) rfl rfl rfl ?_
    refine Ops.load rfl Try.underlying3 rfl (hst14.cell (i := 1) rfl rfl) rfl ?_
    refine Ops.ex (Ex.move rfl) rfl rfl rfl ?_
    refine Ops.ex (Ex.rem8 (a := p4) (b := 9) rfl rfl (by decide)) rfl rfl rfl ?_
    refine Ops.ex (Ex.cu8 rfl Try.underlying5 Try.underlying3) rfl rfl rfl ?_
    refine Ops.ex (Ex.add rfl rfl) rfl rfl rfl ?_
    refine Ops.ex (Ex.fieldAddr rfl Try.underlying27 rfl sz3) rfl rfl rfl ?_
    refine Ops.store 1 [vi (wr (y8.Floor + ((p4 % 9).toNat : Int)))] hst14 rfl rfl rfl rfl sz3 rfl (by simp [Value.oneCell']) (by simp) (fun w15 hst15 => ?_)
    refine Ops.nil ?_
    refine Run.seq ?_
    refine Run.region ?_
    refine Ops.loadAgg _ rfl Try.underlying27 rfl sz27 rfl (hst15.cells (i := 2) rfl 0 2) rfl ?_
    refine Ops.ex (Ex.move rfl) rfl rfl rfl ?_
    refine Ops.ex (Ex.move rfl) rfl rfl rfl ?_
    obtain ⟨y16, hy16, hf⟩ := bnd hf
    refine Ops.call rfl rfl Try.func12 (by kernel_rfl) (by kernel_rfl) rfl (go_plan_Of.walk (p0 := y8) (p1 := ((p2 % 32).toNat : Int)) (p2 := ((p3 % 32).toNat : Int)) (hst := hst15) (f1 := f9) (hf := hy16)) ?_
    rintro _ w16 ⟨z16, A17, A18, c18, A19, c19, rfl, hz16, f17, f18, f19, hst16⟩
    refine ⟨_, rfl, ?_⟩
    replace f1 := f1.mono hz16; replace f9 := f9.mono hz16
    replace hle0 := hle0.trans hz16
    refine Ops.ex (Ex.move rfl) rfl rfl rfl ?_
    refine Ops.ex (Ex.extract rfl rfl) rfl rfl rfl ?_
    refine Ops.ex (Ex.extract rfl rfl) rfl rfl rfl ?_
    refine Ops.allocF [.pointer none, .slice none 0 0, .slice none 0 0] hst16 zr31 rfl rfl (fun g21 w21 hst21 => ?_)
    refine Ops.store 1 [.pointer A17, .slice A18 y16.1.Deltas.length c18, .slice A19 y16.1.Parts.length c19] hst21 rfl rfl rfl rfl sz31 rfl (by simp [Value.oneCell']) (by simp) (fun w22 hst22 => ?_)
    refine Ops.ex (Ex.assign rfl) rfl rfl rfl ?_
    refine Ops.nil ?_
    refine Run.seq ?_
    refine Run.region ?_
    refine Ops.loadAgg _ rfl Try.underlying27 rfl sz27 rfl (hst22.cells (i := 2) rfl 0 2) rfl ?_
    refine Ops.ex (Ex.move rfl) rfl rfl rfl ?_
    refine Ops.ex (Ex.move rfl) rfl rfl rfl ?_
    obtain ⟨y23, hy23, hf⟩ := bnd hf
    refine Ops.call rfl rfl Try.func12 (by kernel_rfl) (by kernel_rfl) rfl (go_plan_Of.walk (p0 := (⟨y8.Refs, wr (y8.Floor + ((p4 % 9).toNat : Int))⟩ : editsSet)) (p1 := ((p2 % 32).toNat : Int)) (p2 := ((p3 % 32).toNat : Int)) (hst := hst22) (f1 := f9) (hf := hy23)) ?_
    rintro _ w23 ⟨z23, A24, A25, c25, A26, c26, rfl, hz23, f24, f25, f26, hst23⟩
    refine ⟨_, rfl, ?_⟩
    replace f1 := f1.mono hz23; replace f9 := f9.mono hz23; replace f17 := f17.mono hz23; replace f18 := f18.mono hz23; replace f19 := f19.mono hz23
    replace hle0 := hle0.trans hz23
    refine Ops.ex (Ex.move rfl) rfl rfl rfl ?_
    refine Ops.ex (Ex.extract rfl rfl) rfl rfl rfl ?_
    refine Ops.ex (Ex.extract rfl rfl) rfl rfl rfl ?_
    refine Ops.allocF [.pointer none, .slice none 0 0, .slice none 0 0] hst23 zr31 rfl rfl (fun g28 w28 hst28 => ?_)
    refine Ops.store 1 [.pointer A24, .slice A25 y23.1.Deltas.length c25, .slice A26 y23.1.Parts.length c26] hst28 rfl rfl rfl rfl sz31 rfl (by simp [Value.oneCell']) (by simp) (fun w29 hst29 => ?_)
    refine Ops.ex (Ex.assign rfl) rfl rfl rfl ?_
    refine Ops.nil ?_
    refine Run.seq ?_
    refine Run.seq ?_
    refine Run.region ?_
    refine Ops.ex (Ex.move rfl) rfl rfl rfl ?_
    refine Ops.ex (Ex.fieldAddr rfl Try.underlying27 rfl sz3) rfl rfl rfl ?_
    refine Ops.load rfl Try.underlying3 rfl (hst29.cell (i := 3) rfl rfl) rfl ?_
    refine Ops.ex (Ex.lss rfl rfl) rfl rfl rfl ?_
    refine Ops.nil ?_
    refine Run.cond rfl (fun hc => ?_) (fun hc => ?_)
    · replace hf := ifT (dec_T hc) hf
      refine Run.seq ?_
      refine Run.region ?_
      refine Ops.ex (Ex.move rfl) rfl rfl rfl ?_
      refine Ops.ex (Ex.eqlI rfl rfl) rfl rfl rfl ?_
      refine Ops.ex (Ex.assign rfl) rfl rfl rfl ?_
      refine Ops.nil ?_
      obtain rfl := Option.some.inj hf
      exact Run.retV [vb (decide (y23.2 = 9))] rfl ⟨rfl, trivial⟩ ⟨z23, rfl, hle0, (St.forget (St.forget (St.forget (St.forget hst29 4) 3) 2) 1)⟩
    · replace hf := ifF (dec_F hc) hf
      refine Run.skip ?_
      refine Run.seq ?_
      refine Run.region ?_
      refine Ops.ex (Ex.move rfl) rfl rfl rfl ?_
      refine Ops.ex (Ex.move rfl) rfl rfl rfl ?_
      refine Ops.ex (Ex.eqlI rfl rfl) rfl rfl rfl ?_
      refine Ops.ex (Ex.move rfl) rfl rfl rfl ?_
      refine Ops.case 61 rfl (fun hc => ?_) (fun hc => ?_)
      · replace hf := ifT (dec_T hc) hf
        refine Ops.on rfl ?_
        refine Ops.ex (Ex.fieldAddr rfl Try.underlying31 rfl sz25) rfl rfl rfl ?_
        refine Ops.on rfl ?_
        refine Ops.load rfl Try.underlying25 rfl (hst29.cell (i := 2) rfl rfl) rfl ?_
        refine Ops.on rfl ?_
        refine Ops.ex (Ex.fieldAddr rfl Try.underlying31 rfl sz25) rfl rfl rfl ?_
        refine Ops.on rfl ?_
        refine Ops.load rfl Try.underlying25 rfl (hst29.cell (i := 1) rfl rfl) rfl ?_
        refine Ops.on rfl ?_
        obtain ⟨y30, hy30, hf⟩ := bnd hf
        refine Ops.call rfl rfl Try.func15 (by kernel_rfl) (by kernel_rfl) rfl (go_law11_refs.walk (p0 := y16.1.Deltas) (p1 := y23.1.Deltas) (hst := hst29) (f1 := f18) (f2 := f25) (hf := hy30)) ?_
        rintro _ w30 ⟨z30, rfl, hz30, hst30⟩
        refine ⟨_, rfl, ?_⟩
        replace f1 := f1.mono hz30; replace f9 := f9.mono hz30; replace f17 := f17.mono hz30; replace f18 := f18.mono hz30; replace f19 := f19.mono hz30; replace f24 := f24.mono hz30; replace f25 := f25.mono hz30; replace f26 := f26.mono hz30
        replace hle0 := hle0.trans hz30
        refine Ops.ex (Ex.pickT rfl rfl) rfl rfl rfl ?_
        refine Ops.ex (Ex.move rfl) rfl rfl rfl ?_
        refine Ops.case 68 rfl (fun hc => ?_) (fun hc => ?_)
        · replace hf := ifTb hc hf
          refine Ops.on rfl ?_
          refine Ops.ex (Ex.fieldAddr rfl Try.underlying31 rfl sz25) rfl rfl rfl ?_
          refine Ops.on rfl ?_
          refine Ops.load rfl Try.underlying25 rfl (hst30.cell (i := 2) rfl rfl) rfl ?_
          refine Ops.on rfl ?_
          refine Ops.ex (Ex.fieldAddr rfl Try.underlying31 rfl sz25) rfl rfl rfl ?_
          refine Ops.on rfl ?_
          refine Ops.load rfl Try.underlying25 rfl (hst30.cell (i := 1) rfl rfl) rfl ?_
          refine Ops.on rfl ?_
          obtain ⟨y32, hy32, hf⟩ := bnd hf
          refine Ops.call rfl rfl Try.func15 (by kernel_rfl) (by kernel_rfl) rfl (go_law11_refs.walk (p0 := y16.1.Parts) (p1 := y23.1.Parts) (hst := hst30) (f1 := f19) (f2 := f26) (hf := hy32)) ?_
          rintro _ w32 ⟨z32, rfl, hz32, hst32⟩
          refine ⟨_, rfl, ?_⟩
          replace f1 := f1.mono hz32; replace f9 := f9.mono hz32; replace f17 := f17.mono hz32; replace f18 := f18.mono hz32; replace f19 := f19.mono hz32; replace f24 := f24.mono hz32; replace f25 := f25.mono hz32; replace f26 := f26.mono hz32
          replace hle0 := hle0.trans hz32
          refine Ops.ex (Ex.pickT rfl rfl) rfl rfl rfl ?_
          refine Ops.ex (Ex.move rfl) rfl rfl rfl ?_
          refine Ops.case 75 rfl (fun hc => ?_) (fun hc => ?_)
          · replace hf := ifTb hc hf
            refine Ops.on rfl ?_
            refine Ops.ex (Ex.fieldAddr rfl Try.underlying31 rfl sz29) rfl rfl rfl ?_
            refine Ops.on rfl ?_
            refine Ops.load rfl Try.underlying29 rfl (hst32.cell (i := 2) rfl rfl) rfl ?_
            refine Ops.on rfl ?_
            refine Ops.ex (Ex.eqlP f17 rfl rfl Try.underlying29) rfl rfl rfl ?_
            refine Ops.on rfl ?_
            refine Ops.ex (Ex.fieldAddr rfl Try.underlying31 rfl sz29) rfl rfl rfl ?_
            refine Ops.on rfl ?_
            refine Ops.load rfl Try.underlying29 rfl (hst32.cell (i := 1) rfl rfl) rfl ?_
            refine Ops.on rfl ?_
            refine Ops.ex (Ex.eqlP f24 rfl rfl Try.underlying29) rfl rfl rfl ?_
            refine Ops.on rfl ?_
            refine Ops.ex (Ex.eqlBo rfl rfl Try.underlying4) rfl rfl rfl ?_
            refine Ops.ex (Ex.pickT rfl rfl) rfl rfl rfl ?_
            refine Ops.ex (Ex.assign rfl) rfl rfl rfl ?_
            refine Ops.nil ?_
            obtain rfl := Option.some.inj hf
            exact Run.retV [vb (decide ((decide (y16.1.Full = none)) = (decide (y23.1.Full = none))))] rfl ⟨rfl, trivial⟩ ⟨z32, rfl, hle0, (St.forget (St.forget (St.forget (St.forget hst32 4) 3) 2) 1)⟩
          · replace hf := ifFb hc hf
            refine Ops.off rfl rfl ?_
            refine Ops.off rfl rfl ?_
            refine Ops.off rfl rfl ?_
            refine Ops.off rfl rfl ?_
            refine Ops.off rfl rfl ?_
            refine Ops.off rfl rfl ?_
            refine Ops.off rfl rfl ?_
            refine Ops.ex (Ex.pickF rfl rfl) rfl rfl rfl ?_
            refine Ops.ex (Ex.assign rfl) rfl rfl rfl ?_
            refine Ops.nil ?_
            obtain rfl := Option.some.inj hf
            exact Run.retV [vb false] rfl ⟨rfl, trivial⟩ ⟨z32, rfl, hle0, (St.forget (St.forget (St.forget (St.forget hst32 4) 3) 2) 1)⟩
        · replace hf := ifFb hc hf
          refine Ops.off rfl rfl ?_
          refine Ops.off rfl rfl ?_
          refine Ops.off rfl rfl ?_
          refine Ops.off rfl rfl ?_
          refine Ops.off rfl rfl ?_
          refine Ops.ex (Ex.pickF rfl rfl) rfl rfl rfl ?_
          refine Ops.ex (Ex.move rfl) rfl rfl rfl ?_
          refine Ops.off rfl rfl ?_
          refine Ops.off rfl rfl ?_
          refine Ops.off rfl rfl ?_
          refine Ops.off rfl rfl ?_
          refine Ops.off rfl rfl ?_
          refine Ops.off rfl rfl ?_
          refine Ops.off rfl rfl ?_
          refine Ops.ex (Ex.pickF rfl rfl) rfl rfl rfl ?_
          refine Ops.ex (Ex.assign rfl) rfl rfl rfl ?_
          refine Ops.nil ?_
          obtain rfl := Option.some.inj hf
          exact Run.retV [vb false] rfl ⟨rfl, trivial⟩ ⟨z30, rfl, hle0, (St.forget (St.forget (St.forget (St.forget hst30 4) 3) 2) 1)⟩
      · replace hf := ifF (dec_F hc) hf
        refine Ops.off rfl rfl ?_
        refine Ops.off rfl rfl ?_
        refine Ops.off rfl rfl ?_
        refine Ops.off rfl rfl ?_
        refine Ops.off rfl rfl ?_
        refine Ops.ex (Ex.pickF rfl rfl) rfl rfl rfl ?_
        refine Ops.ex (Ex.move rfl) rfl rfl rfl ?_
        refine Ops.off rfl rfl ?_
        refine Ops.off rfl rfl ?_
        refine Ops.off rfl rfl ?_
        refine Ops.off rfl rfl ?_
        refine Ops.off rfl rfl ?_
        refine Ops.ex (Ex.pickF rfl rfl) rfl rfl rfl ?_
        refine Ops.ex (Ex.move rfl) rfl rfl rfl ?_
        refine Ops.off rfl rfl ?_
        refine Ops.off rfl rfl ?_
        refine Ops.off rfl rfl ?_
        refine Ops.off rfl rfl ?_
        refine Ops.off rfl rfl ?_
        refine Ops.off rfl rfl ?_
        refine Ops.off rfl rfl ?_
        refine Ops.ex (Ex.pickF rfl rfl) rfl rfl rfl ?_
        refine Ops.ex (Ex.assign rfl) rfl rfl rfl ?_
        refine Ops.nil ?_
        obtain rfl := Option.some.inj hf
        exact Run.retV [vb false] rfl ⟨rfl, trivial⟩ ⟨z23, rfl, hle0, (St.forget (St.forget (St.forget (St.forget hst29 4) 3) 2) 1)⟩
def go_law11_PlanPair.b2 (y9 : apiRef × apiRef × Bool) (a25 : apiRef) (i112 : Nat) (a112 : apiRef) : Unit → (Unit → Option Bool) → Option Bool :=
  fun _ nxb112 => if a112.From = a25.To then (if a112.From < a112.To then (if a25 = a112 then (nxb112 ()) else (if y9.2.2 then (if y9.1 = a25 then (some (decide (y9.2.1 = a112))) else (some false)) else (some false))) else (nxb112 ())) else (nxb112 ())
def go_law11_PlanPair.b1 (y9 : apiRef × apiRef × Bool) (y23 : List apiRef) (i25 : Nat) (a25 : apiRef) : Unit → (Unit → Option Bool) → Option Bool :=
  fun _ nxb25 => forL (go_law11_PlanPair.b2 y9 a25) (fun _ => nxb25 ()) 0 y23 ()
def go_law11_PlanPair (p0 : List law11Ref) : Option Bool :=
  (go_law11_awake).bind fun y2 => if y2 then ((go_law11_Set p0 0).bind fun y4 => (go_plan_Pair y4).bind fun y9 => (go_law11_of y4 1).bind fun y23 => forL (go_law11_PlanPair.b1 y9 y23) (fun _ => if y9.2.2 then (some false) else (if y9.1 = (⟨[], 0, 0, 0⟩ : apiRef) then (some (decide (y9.2.1 = (⟨[], 0, 0, 0⟩ : apiRef)))) else (some false))) 0 y23 ()) else (some false)
set_option maxRecDepth 100000 in
set_option maxHeartbeats 4000000 in
theorem go_law11_PlanPair.walk {w0 w : World} {X : List Res} {z0 : Zp} {p0 : List law11Ref} {A1 : Option Addr} {c1 : Nat} {r : Bool} (hst : Ht w0 (frz z0 :: X) w) (f1 : Sl tlaw11Ref z0 A1 c1 p0) (hf : go_law11_PlanPair p0 = some r) :
    Calls Try.prog 7 #[.slice A1 p0.length c1] w fun e w' => ∃ (z' : Zp), e = .returned (vb r) ∧ Le z0 z' ∧ Ht w0 (frz z' :: X) w' := by
  refine calls_np Try.func7 rfl rfl ?_
  have hle0 := Le.refl z0
  unfold go_law11_PlanPair at hf
  refine Run.seq ?_
  refine Run.region ?_
  refine Ops.ex (Ex.assign rfl) rfl rfl rfl ?_
  refine Ops.nil ?_
  refine Run.seq ?_
  refine Run.seq ?_
  refine Run.region ?_
  obtain ⟨y2, hy2, hf⟩ := bnd hf
  refine Ops.call rfl rfl Try.func10 (by kernel_rfl) (by kernel_rfl) rfl (go_law11_awake.walk (hst := hst) (hf := hy2)) ?_
  rintro _ w2 ⟨z2, rfl, hz2, hst2⟩
  refine ⟨_, rfl, ?_⟩
  replace f1 := f1.mono hz2
  replace hle0 := hle0.trans hz2
  refine Ops.ex (Ex.not rfl) rfl rfl rfl ?_
  refine Ops.nil ?_
  refine Run.cond rfl (fun hc => ?_) (fun hc => ?_)
  · replace hf := ifFb (bn_T hc) hf
    refine Run.seq ?_
    refine Run.region ?_
    refine Ops.ex (Ex.assign rfl) rfl rfl rfl ?_
    refine Ops.nil ?_
    obtain rfl := Option.some.inj hf
    exact Run.retV [vb false] rfl ⟨rfl, trivial⟩ ⟨z2, rfl, hle0, hst2⟩
  · replace hf := ifTb (bn_F hc) hf
    refine Run.skip ?_
    refine Run.seq ?_
    refine Run.region ?_
    refine Ops.ex (Ex.move rfl) rfl rfl rfl ?_
    obtain ⟨y4, hy4, hf⟩ := bnd hf
    refine Ops.call rfl rfl Try.func11 (by kernel_rfl) (by kernel_rfl) rfl (go_law11_Set.walk (p0 := p0) (p1 := 0) (hst := hst2) (f1 := f1) (hf := hy4)) ?_
    rintro _ w4 ⟨z4, A5, c5, rfl, hz4, f5, hst4⟩
    refine ⟨_, rfl, ?_⟩
    replace f1 := f1.mono hz4
    replace hle0 := hle0.trans hz4
    refine Ops.allocF [.slice none 0 0, vi 0] hst4 zr27 rfl rfl (fun g7 w7 hst7 => ?_)
    refine Ops.store 1 [.slice A5 y4.Refs.length c5, vi y4.Floor] hst7 rfl rfl rfl rfl sz27 rfl (by simp [Value.oneCell']) (by simp) (fun w8 hst8 => ?_)
    refine Ops.nil ?_
    refine Run.seq ?_
    refine Run.region ?_
    refine Ops.loadAgg _ rfl Try.underlying27 rfl sz27 rfl (hst8.cells (i := 1) rfl 0 2) rfl ?_
    obtain ⟨y9, hy9, hf⟩ := bnd hf
    refine Ops.call rfl rfl Try.func16 (by kernel_rfl) (by kernel_rfl) rfl (go_plan_Pair.walk (p0 := y4) (hst := hst8) (f1 := f5) (hf := hy9)) ?_
    rintro _ w9 ⟨z9, rfl, hz9, hst9⟩
    refine ⟨_, rfl, ?_⟩
    replace f1 := f1.mono hz9; replace f5 := f5.mono hz9
    replace hle0 := hle0.trans hz9
    refine Ops.ex (Ex.move rfl) rfl rfl rfl ?_
    refine Ops.ex (Ex.extract rfl rfl) rfl rfl rfl ?_
    refine Ops.ex (Ex.extract rfl rfl) rfl rfl rfl ?_
    refine Ops.ex (Ex.extract rfl rfl) rfl rfl rfl ?_
    refine Ops.allocF [vs [], vi 0, vi 0, vi 0] hst9 zr37 rfl rfl (fun g19 w19 hst19 => ?_)
    refine Ops.allocF [vs [], vi 0, vi 0, vi 0] hst19 zr37 rfl rfl (fun g20 w20 hst20 => ?_)
    refine Ops.store 2 [vs y9.1.Name, vi y9.1.Kind, vi y9.1.From, vi y9.1.To] hst20 rfl rfl rfl rfl sz37 rfl (by simp [Value.oneCell']) (by simp) (fun w21 hst21 => ?_)
    refine Ops.store 1 [vs y9.2.1.Name, vi y9.2.1.Kind, vi y9.2.1.From, vi y9.2.1.To] hst21 rfl rfl rfl rfl sz37 rfl (by simp [Value.oneCell']) (by simp) (fun w22 hst22 => ?_)
    refine Ops.ex (Ex.assign rfl) rfl rfl rfl ?_
    refine Ops.nil ?_
    refine Run.seq ?_
    refine Run.region ?_
    refine Ops.loadAgg _ rfl Try.underlying27 rfl sz27 rfl (hst22.cells (i := 3) rfl 0 2) rfl ?_
    obtain ⟨y23, hy23, hf⟩ := bnd hf
    refine Ops.call rfl rfl Try.func14 (by kernel_rfl) (by kernel_rfl) rfl (go_law11_of.walk (p0 := y4) (p1 := 1) (hst := hst22) (f1 := f5) (hf := hy23)) ?_
    rintro _ w23 ⟨z23, A24, c24, rfl, hz23, f24, hst23⟩
    refine ⟨_, rfl, ?_⟩
    replace f1 := f1.mono hz23; replace f5 := f5.mono hz23
    replace hle0 := hle0.trans hz23
    refine Ops.ex (Ex.assign rfl) rfl rfl rfl ?_
    refine Ops.nil ?_
    refine Run.seq ?_
    refine Run.seq ?_
    refine Run.region ?_
    refine Ops.ex (Ex.move rfl) rfl rfl rfl ?_
    refine Ops.ex (Ex.len' rfl rfl rfl Try.underlying25) rfl rfl rfl ?_
    refine Ops.ex (Ex.move rfl) rfl rfl rfl ?_
    refine Ops.nil ?_
    refine Run.block ?_
    have hc25 := f24.cap
    have hm26 := Le.refl z23
    refine Run.sub (e' := [(4, .pointer (some ⟨g19, 0, none⟩)), (5, .pointer (some ⟨g20, 0, none⟩)), (6, vb y9.2.2), (7, .slice A24 y23.length c24), (24, .slice A24 y23.length c24), (25, vi (y23.length : Int)), (26, vi ((0 : Nat) : Int))]) (subB_spec ⟨rfl, rfl, rfl, rfl, rfl, rfl, rfl, trivial⟩) ?_
    refine Run.loop (fun mb25 => (fun e' w' => ∃ (i25 : Nat) (z103 : Zp), mb25 = y23.length - i25 ∧ i25 ≤ y23.length ∧ forL (go_law11_PlanPair.b1 y9 y23) (fun _ => if y9.2.2 then (some false) else (if y9.1 = (⟨[], 0, 0, 0⟩ : apiRef) then (some (decide (y9.2.1 = (⟨[], 0, 0, 0⟩ : apiRef)))) else (some false))) i25 (y23.drop i25) () = some r ∧ e' = [(4, .pointer (some ⟨g19, 0, none⟩)), (5, .pointer (some ⟨g20, 0, none⟩)), (6, vb y9.2.2), (7, .slice A24 y23.length c24), (24, .slice A24 y23.length c24), (25, vi (y23.length : Int)), (26, vi (i25 : Int))] ∧ Le z23 z103 ∧ Le z0 z103 ∧ Ht w0 (frz z103 :: (blk g20 [vs y9.2.1.Name, vi y9.2.1.Kind, vi y9.2.1.From, vi y9.2.1.To] 37) :: (blk g19 [vs y9.1.Name, vi y9.1.Kind, vi y9.1.From, vi y9.1.To] 37) :: X) w')) y23.length ⟨0, z23, rfl, Nat.zero_le _, hf, rfl, hm26, hle0, (St.forget hst23 3)⟩ ?_
    rintro _ e' w104 ⟨i25, z103, rfl, hi25, hf, rfl, hz104, hy104_0, hst104⟩
    replace f24 := f24.mono hz104
    refine Run.seq ?_
    refine Run.region ?_
    refine Ops.ex (Ex.lss rfl rfl) rfl rfl rfl ?_
    refine Ops.nil ?_
    refine Run.seq ?_
    refine Run.cond rfl (fun hc => ?_) (fun hc => ?_)
    · have hl25 := lt_of_dec hc
      obtain ⟨a25, nxb25, ha25, hnxb25, hf⟩ := forL_in hf hl25
      unfold go_law11_PlanPair.b1 at hf
      try dsimp only at hf
      refine Run.skip ?_
      refine Run.seq ?_
      refine Run.block ?_
      refine Run.seq ?_
      refine Run.region ?_
      obtain ⟨g109, p109, o109, cs109, hA109, ho109, hr109, f109⟩ := SlH.elem f24.toH (atI_nat ha25)
      obtain rfl := hr109
      refine Ops.ex (Ex.ixA hA109 ho109 (atI_nat ha25) rfl rfl rfl Try.underlying25 sz37) rfl rfl rfl ?_
      refine Ops.loadAgg [vs a25.Name, vi a25.Kind, vi a25.From, vi a25.To] rfl Try.underlying37 rfl sz37 rfl (cells_of_zc rfl (f109.mono hst104.le)) rfl ?_
      refine Ops.allocF [vs [], vi 0, vi 0, vi 0] hst104 zr37 rfl rfl (fun g110 w110 hst110 => ?_)
      refine Ops.store 1 [vs a25.Name, vi a25.Kind, vi a25.From, vi a25.To] hst110 rfl rfl rfl rfl sz37 rfl (by simp [Value.oneCell']) (by simp) (fun w111 hst111 => ?_)
      refine Ops.nil ?_
      refine Run.seq ?_
      refine Run.region ?_
      refine Ops.ex (Ex.move rfl) rfl rfl rfl ?_
      refine Ops.ex (Ex.len' rfl rfl rfl Try.underlying25) rfl rfl rfl ?_
      refine Ops.ex (Ex.move rfl) rfl rfl rfl ?_
      refine Ops.nil ?_
      refine Run.block ?_
      have hc112 := f24.cap
      have hm113 := Le.refl z103
      refine Run.sub (e' := [(4, .pointer (some ⟨g19, 0, none⟩)), (5, .pointer (some ⟨g20, 0, none⟩)), (6, vb y9.2.2), (7, .slice A24 y23.length c24), (9, .pointer (some ⟨g110, 0, none⟩)), (24, .slice A24 y23.length c24), (25, vi (y23.length : Int)), (26, vi (i25 : Int)), (30, .slice A24 y23.length c24), (31, vi (y23.length : Int)), (32, vi ((0 : Nat) : Int))]) (subB_spec ⟨rfl, rfl, rfl, rfl, rfl, rfl, rfl, rfl, rfl, rfl, rfl, trivial⟩) ?_
      refine Run.loop (fun mb112 => (fun e' w' => ∃ (i112 : Nat) (z132 : Zp), mb112 = y23.length - i112 ∧ i112 ≤ y23.length ∧ forL (go_law11_PlanPair.b2 y9 a25) (fun _ => nxb25 ()) i112 (y23.drop i112) () = some r ∧ e' = [(4, .pointer (some ⟨g19, 0, none⟩)), (5, .pointer (some ⟨g20, 0, none⟩)), (6, vb y9.2.2), (7, .slice A24 y23.length c24), (9, .pointer (some ⟨g110, 0, none⟩)), (24, .slice A24 y23.length c24), (25, vi (y23.length : Int)), (26, vi (i25 : Int)), (30, .slice A24 y23.length c24), (31, vi (y23.length : Int)), (32, vi (i112 : Int))] ∧ Le z103 z132 ∧ Le z0 z132 ∧ Le z23 z132 ∧ Ht w0 (frz z132 :: (blk g110 [vs a25.Name, vi a25.Kind, vi a25.From, vi a25.To] 37) :: (blk g20 [vs y9.2.1.Name, vi y9.2.1.Kind, vi y9.2.1.From, vi y9.2.1.To] 37) :: (blk g19 [vs y9.1.Name, vi y9.1.Kind, vi y9.1.From, vi y9.1.To] 37) :: X) w')) y23.length ⟨0, z103, rfl, Nat.zero_le _, hf, rfl, hm113, hy104_0, hz104, hst111⟩ ?_
      rintro _ e' w133 ⟨i112, z132, rfl, hi112, hf, rfl, hz133, hy133_0, hy133_1, hst133⟩
      replace f24 := f24.mono hz133
      refine Run.seq ?_
      refine Run.region ?_
      refine Ops.ex (Ex.lss rfl rfl) rfl rfl rfl ?_
      refine Ops.nil ?_
      refine Run.seq ?_
      refine Run.cond rfl (fun hc => ?_) (fun hc => ?_)
      · have hl112 := lt_of_dec hc
        obtain ⟨a112, nxb112, ha112, hnxb112, hf⟩ := forL_in hf hl112
        unfold go_law11_PlanPair.b2 at hf
        try dsimp only at hf
        refine Run.skip ?_
        refine Run.seq ?_
        refine Run.block ?_
        refine Run.seq ?_
        refine Run.region ?_
        obtain ⟨g138, p138, o138, cs138, hA138, ho138, hr138, f138⟩ := SlH.elem f24.toH (atI_nat ha112)
        obtain rfl := hr138
        refine Ops.ex (Ex.ixA hA138 ho138 (atI_nat ha112) rfl rfl rfl Try.underlying25 sz37) rfl rfl rfl ?_
        refine Ops.loadAgg [vs a112.Name, vi a112.Kind, vi a112.From, vi a112.To] rfl Try.underlying37 rfl sz37 rfl (cells_of_zc rfl (f138.mono hst133.le)) rfl ?_
        refine Ops.allocF [vs [], vi 0, vi 0, vi 0] hst133 zr37 rfl rfl (fun g139 w139 hst139 => ?_)
        refine Ops.store 1 [vs a112.Name, vi a112.Kind, vi a112.From, vi a112.To] hst139 rfl rfl rfl rfl sz37 rfl (by simp [Value.oneCell']) (by simp) (fun w140 hst140 => ?_)
        refine Ops.nil ?_
        refine Run.seq ?_
        refine Run.region ?_
        refine Ops.ex (Ex.fieldAddr rfl Try.underlying37 rfl sz3) rfl rfl rfl ?_
        refine Ops.load rfl Try.underlying3 rfl (hst140.cell (i := 1) rfl rfl) rfl ?_
        refine Ops.ex (Ex.fieldAddr rfl Try.underlying37 rfl sz3) rfl rfl rfl ?_
        refine Ops.load rfl Try.underlying3 rfl (hst140.cell (i := 2) rfl rfl) rfl ?_
        refine Ops.ex (Ex.eqlI rfl rfl) rfl rfl rfl ?_
        refine Ops.ex (Ex.move rfl) rfl rfl rfl ?_
        refine Ops.case 41 rfl (fun hc => ?_) (fun hc => ?_)
        · replace hf := ifT (dec_T hc) hf
          refine Ops.on rfl ?_
          refine Ops.ex (Ex.fieldAddr rfl Try.underlying37 rfl sz3) rfl rfl rfl ?_
          refine Ops.on rfl ?_
          refine Ops.load rfl Try.underlying3 rfl (hst140.cell (i := 1) rfl rfl) rfl ?_
          refine Ops.on rfl ?_
          refine Ops.ex (Ex.fieldAddr rfl Try.underlying37 rfl sz3) rfl rfl rfl ?_
          refine Ops.on rfl ?_
          refine Ops.load rfl Try.underlying3 rfl (hst140.cell (i := 1) rfl rfl) rfl ?_
          refine Ops.on rfl ?_
          refine Ops.ex (Ex.gtr rfl rfl) rfl rfl rfl ?_
          refine Ops.ex (Ex.pickT rfl rfl) rfl rfl rfl ?_
          refine Ops.ex (Ex.move rfl) rfl rfl rfl ?_
          refine Ops.case 48 rfl (fun hc => ?_) (fun hc => ?_)
          · replace hf := ifT (dec_T hc) hf
            refine Ops.on rfl ?_
            refine Ops.loadAgg _ rfl Try.underlying37 rfl sz37 rfl (hst140.cells (i := 2) rfl 0 4) rfl ?_
            refine Ops.on rfl ?_
            refine Ops.loadAgg _ rfl Try.underlying37 rfl sz37 rfl (hst140.cells (i := 1) rfl 0 4) rfl ?_
            refine Ops.on rfl ?_
            refine Ops.ex (Ex.neqV rfl rfl (eqv37 9998 a25 a112) (by kernel_rfl)) rfl rfl rfl ?_
            refine Ops.ex (Ex.pickT rfl rfl) rfl rfl rfl ?_
            refine Ops.nil ?_
            refine Run.cond rfl (fun hc => ?_) (fun hc => ?_)
            · replace hf := ifF (neq_T hc) hf
              refine Run.seq ?_
              refine Run.region ?_
              refine Ops.ex (Ex.move rfl) rfl rfl rfl ?_
              refine Ops.ex (Ex.move rfl) rfl rfl rfl ?_
              refine Ops.case 54 rfl (fun hc => ?_) (fun hc => ?_)
              · replace hf := ifTb hc hf
                refine Ops.on rfl ?_
                refine Ops.loadAgg _ rfl Try.underlying37 rfl sz37 rfl (hst140.cells (i := 4) rfl 0 4) rfl ?_
                refine Ops.on rfl ?_
                refine Ops.loadAgg _ rfl Try.underlying37 rfl sz37 rfl (hst140.cells (i := 2) rfl 0 4) rfl ?_
                refine Ops.on rfl ?_
                refine Ops.ex (Ex.eqlV rfl rfl (eqv37 9998 y9.1 a25) (by kernel_rfl)) rfl rfl rfl ?_
                refine Ops.ex (Ex.pickT rfl rfl) rfl rfl rfl ?_
                refine Ops.ex (Ex.move rfl) rfl rfl rfl ?_
                refine Ops.case 59 rfl (fun hc => ?_) (fun hc => ?_)
                · replace hf := ifT (dec_T hc) hf
                  refine Ops.on rfl ?_
                  refine Ops.loadAgg _ rfl Try.underlying37 rfl sz37 rfl (hst140.cells (i := 3) rfl 0 4) rfl ?_
                  refine Ops.on rfl ?_
                  refine Ops.loadAgg _ rfl Try.underlying37 rfl sz37 rfl (hst140.cells (i := 1) rfl 0 4) rfl ?_
                  refine Ops.on rfl ?_
                  refine Ops.ex (Ex.eqlV rfl rfl (eqv37 9998 y9.2.1 a112) (by kernel_rfl)) rfl rfl rfl ?_
                  refine Ops.ex (Ex.pickT rfl rfl) rfl rfl rfl ?_
                  refine Ops.ex (Ex.assign rfl) rfl rfl rfl ?_
                  refine Ops.nil ?_
                  obtain rfl := Option.some.inj hf
                  exact Run.retV [vb (decide (y9.2.1 = a112))] rfl ⟨rfl, trivial⟩ ⟨z132, rfl, hy133_0, (St.forget (St.forget (St.forget (St.forget hst140 4) 3) 2) 1)⟩
                · replace hf := ifF (dec_F hc) hf
                  refine Ops.off rfl rfl ?_
                  refine Ops.off rfl rfl ?_
                  refine Ops.off rfl rfl ?_
                  refine Ops.ex (Ex.pickF rfl rfl) rfl rfl rfl ?_
                  refine Ops.ex (Ex.assign rfl) rfl rfl rfl ?_
                  refine Ops.nil ?_
                  obtain rfl := Option.some.inj hf
                  exact Run.retV [vb false] rfl ⟨rfl, trivial⟩ ⟨z132, rfl, hy133_0, (St.forget (St.forget (St.forget (St.forget hst140 4) 3) 2) 1)⟩
              · replace hf := ifFb hc hf
                refine Ops.off rfl rfl ?_
                refine Ops.off rfl rfl ?_
                refine Ops.off rfl rfl ?_
                refine Ops.ex (Ex.pickF rfl rfl) rfl rfl rfl ?_
                refine Ops.ex (Ex.move rfl) rfl rfl rfl ?_
                refine Ops.off rfl rfl ?_
                refine Ops.off rfl rfl ?_
                refine Ops.off rfl rfl ?_
                refine Ops.ex (Ex.pickF rfl rfl) rfl rfl rfl ?_
                refine Ops.ex (Ex.assign rfl) rfl rfl rfl ?_
                refine Ops.nil ?_
                obtain rfl := Option.some.inj hf
                exact Run.retV [vb false] rfl ⟨rfl, trivial⟩ ⟨z132, rfl, hy133_0, (St.forget (St.forget (St.forget (St.forget hst140 4) 3) 2) 1)⟩
            · replace hf := ifT (neq_F hc) hf
              refine Run.skip ?_
              refine Run.endBlk ?_
              refine Run.region ?_
              refine Ops.ex (Ex.add rfl rfl) rfl rfl rfl ?_
              refine Ops.ex (Ex.move rfl) rfl rfl rfl ?_
              refine Ops.nil ?_
              refine Run.re 32 rfl (congrArg vi (wr_succ' hl112 hc112)) ?_
              exact Run.sub (by exact subB_spec ⟨rfl, rfl, rfl, rfl, rfl, rfl, rfl, rfl, rfl, rfl, rfl, trivial⟩) (Run.stop ⟨y23.length - (i112 + 1), by omega, i112 + 1, z132, rfl, by omega, (hnxb112 _).symm.trans hf, rfl, hz133, hy133_0, hy133_1, (St.forget hst140 1)⟩)
          · replace hf := ifF (dec_F hc) hf
            refine Ops.off rfl rfl ?_
            refine Ops.off rfl rfl ?_
            refine Ops.off rfl rfl ?_
            refine Ops.ex (Ex.pickF rfl rfl) rfl rfl rfl ?_
            refine Ops.nil ?_
            refine Run.condF rfl rfl ?_
            refine Run.skip ?_
            refine Run.endBlk ?_
            refine Run.region ?_
            refine Ops.ex (Ex.add rfl rfl) rfl rfl rfl ?_
            refine Ops.ex (Ex.move rfl) rfl rfl rfl ?_
            refine Ops.nil ?_
            refine Run.re 32 rfl (congrArg vi (wr_succ' hl112 hc112)) ?_
            exact Run.sub (by exact subB_spec ⟨rfl, rfl, rfl, rfl, rfl, rfl, rfl, rfl, rfl, rfl, rfl, trivial⟩) (Run.stop ⟨y23.length - (i112 + 1), by omega, i112 + 1, z132, rfl, by omega, (hnxb112 _).symm.trans hf, rfl, hz133, hy133_0, hy133_1, (St.forget hst140 1)⟩)
        · replace hf := ifF (dec_F hc) hf
          refine Ops.off rfl rfl ?_
          refine Ops.off rfl rfl ?_
          refine Ops.off rfl rfl ?_
          refine Ops.off rfl rfl ?_
          refine Ops.off rfl rfl ?_
          refine Ops.ex (Ex.pickF rfl rfl) rfl rfl rfl ?_
          refine Ops.ex (Ex.move rfl) rfl rfl rfl ?_
          refine Ops.off rfl rfl ?_
          refine Ops.off rfl rfl ?_
          refine Ops.off rfl rfl ?_
          refine Ops.ex (Ex.pickF rfl rfl) rfl rfl rfl ?_
          refine Ops.nil ?_
          refine Run.condF rfl rfl ?_
          refine Run.skip ?_
          refine Run.endBlk ?_
          refine Run.region ?_
          refine Ops.ex (Ex.add rfl rfl) rfl rfl rfl ?_
          refine Ops.ex (Ex.move rfl) rfl rfl rfl ?_
          refine Ops.nil ?_
          refine Run.re 32 rfl (congrArg vi (wr_succ' hl112 hc112)) ?_
          exact Run.sub (by exact subB_spec ⟨rfl, rfl, rfl, rfl, rfl, rfl, rfl, rfl, rfl, rfl, rfl, trivial⟩) (Run.stop ⟨y23.length - (i112 + 1), by omega, i112 + 1, z132, rfl, by omega, (hnxb112 _).symm.trans hf, rfl, hz133, hy133_0, hy133_1, (St.forget hst140 1)⟩)
      · replace hf := forL_out hf (nlt_of_dec hc)
        try dsimp only at hf
        refine Run.exit _ rfl ?_
        refine Run.endBlk ?_
        refine Run.region ?_
        refine Ops.ex (Ex.add rfl rfl) rfl rfl rfl ?_
        refine Ops.ex (Ex.move rfl) rfl rfl rfl ?_
        refine Ops.nil ?_
        refine Run.re 26 rfl (congrArg vi (wr_succ' hl25 hc25)) ?_
        exact Run.sub (by exact subB_spec ⟨rfl, rfl, rfl, rfl, rfl, rfl, rfl, trivial⟩) (Run.stop ⟨y23.length - (i25 + 1), by omega, i25 + 1, z132, rfl, by omega, (hnxb25 _).symm.trans hf, rfl, hy133_1, hy133_0, (St.forget hst133 1)⟩)
    · replace hf := forL_out hf (nlt_of_dec hc)
      try dsimp only at hf
      refine Run.exit _ rfl ?_
      refine Run.seq ?_
      refine Run.region ?_
      refine Ops.ex (Ex.move rfl) rfl rfl rfl ?_
      refine Ops.ex (Ex.not rfl) rfl rfl rfl ?_
      refine Ops.ex (Ex.move rfl) rfl rfl rfl ?_
      refine Ops.case 68 rfl (fun hc => ?_) (fun hc => ?_)
      · replace hf := ifFb (bn_T hc) hf
        refine Ops.on rfl ?_
        refine Ops.loadAgg _ rfl Try.underlying37 rfl sz37 rfl (hst104.cells (i := 2) rfl 0 4) rfl ?_
        refine Ops.on rfl ?_
        refine Ops.ex (Ex.build [vs [], vi 0, vi 0, vi 0] rfl Try.underlying37 zr37 (pl37 Try.underlying37) (by kernel_rfl)) rfl rfl rfl ?_
        refine Ops.on rfl ?_
        refine Ops.ex (Ex.eqlV rfl rfl (eqv37 9998 y9.1 (⟨[], 0, 0, 0⟩ : apiRef)) (by kernel_rfl)) rfl rfl rfl ?_
        refine Ops.ex (Ex.pickT rfl rfl) rfl rfl rfl ?_
        refine Ops.ex (Ex.move rfl) rfl rfl rfl ?_
        refine Ops.case 73 rfl (fun hc => ?_) (fun hc => ?_)
        · replace hf := ifT (dec_T hc) hf
          refine Ops.on rfl ?_
          refine Ops.loadAgg _ rfl Try.underlying37 rfl sz37 rfl (hst104.cells (i := 1) rfl 0 4) rfl ?_
          refine Ops.on rfl ?_
          refine Ops.ex (Ex.build [vs [], vi 0, vi 0, vi 0] rfl Try.underlying37 zr37 (pl37 Try.underlying37) (by kernel_rfl)) rfl rfl rfl ?_
          refine Ops.on rfl ?_
          refine Ops.ex (Ex.eqlV rfl rfl (eqv37 9998 y9.2.1 (⟨[], 0, 0, 0⟩ : apiRef)) (by kernel_rfl)) rfl rfl rfl ?_
          refine Ops.ex (Ex.pickT rfl rfl) rfl rfl rfl ?_
          refine Ops.ex (Ex.assign rfl) rfl rfl rfl ?_
          refine Ops.nil ?_
          obtain rfl := Option.some.inj hf
          exact Run.retV [vb (decide (y9.2.1 = (⟨[], 0, 0, 0⟩ : apiRef)))] rfl ⟨rfl, trivial⟩ ⟨z103, rfl, hy104_0, (St.forget (St.forget hst104 2) 1)⟩
        · replace hf := ifF (dec_F hc) hf
          refine Ops.off rfl rfl ?_
          refine Ops.off rfl rfl ?_
          refine Ops.off rfl rfl ?_
          refine Ops.ex (Ex.pickF rfl rfl) rfl rfl rfl ?_
          refine Ops.ex (Ex.assign rfl) rfl rfl rfl ?_
          refine Ops.nil ?_
          obtain rfl := Option.some.inj hf
          exact Run.retV [vb false] rfl ⟨rfl, trivial⟩ ⟨z103, rfl, hy104_0, (St.forget (St.forget hst104 2) 1)⟩
      · replace hf := ifTb (bn_F hc) hf
        refine Ops.off rfl rfl ?_
        refine Ops.off rfl rfl ?_
        refine Ops.off rfl rfl ?_
        refine Ops.ex (Ex.pickF rfl rfl) rfl rfl rfl ?_
        refine Ops.ex (Ex.move rfl) rfl rfl rfl ?_
        refine Ops.off rfl rfl ?_
        refine Ops.off rfl rfl ?_
        refine Ops.off rfl rfl ?_
        refine Ops.ex (Ex.pickF rfl rfl) rfl rfl rfl ?_
        refine Ops.ex (Ex.assign rfl) rfl rfl rfl ?_
        refine Ops.nil ?_
        obtain rfl := Option.some.inj hf
        exact Run.retV [vb false] rfl ⟨rfl, trivial⟩ ⟨z103, rfl, hy104_0, (St.forget (St.forget hst104 2) 1)⟩
def go_law11_PlanUnneeded.j2 (l161 : List Str) (a21 : apiRef) (nxb21 : (List Str) → Option Bool) (b195 : Bool) : Option Bool :=
  if b195 then ((apB 16 l161 [a21.Name]).bind fun l198 => nxb21 l198) else (nxb21 l161)
def go_law11_PlanUnneeded.j1 (y11 : apiRef × Int) (l161 : List Str) (a21 : apiRef) (nxb21 : (List Str) → Option Bool) (b183 : Bool) : Option Bool :=
  if a21.Kind = 0 then (if a21.To < y11.2 then (go_law11_PlanUnneeded.j2 l161 a21 nxb21 true) else (if a21.Kind = 0 then (go_law11_PlanUnneeded.j2 l161 a21 nxb21 false) else (if b183 then (go_law11_PlanUnneeded.j2 l161 a21 nxb21 false) else (if a21.To ≤ y11.2 then (go_law11_PlanUnneeded.j2 l161 a21 nxb21 (decide (a21.From < y11.2))) else (go_law11_PlanUnneeded.j2 l161 a21 nxb21 false))))) else (if a21.Kind = 0 then (go_law11_PlanUnneeded.j2 l161 a21 nxb21 false) else (if b183 then (go_law11_PlanUnneeded.j2 l161 a21 nxb21 false) else (if a21.To ≤ y11.2 then (go_law11_PlanUnneeded.j2 l161 a21 nxb21 (decide (a21.From < y11.2))) else (go_law11_PlanUnneeded.j2 l161 a21 nxb21 false))))
def go_law11_PlanUnneeded.b2 (l161 : List Str) (i201 : Nat) (a201 : Str) : Unit → (Unit → Option Bool) → Option Bool :=
  fun _ nxb201 => (atI l161 (i201 : Int)).bind fun y227 => if a201 = y227 then (nxb201 ()) else (some false)
def go_law11_PlanUnneeded.b1 (y11 : apiRef × Int) (y19 : List apiRef) (i21 : Nat) (a21 : apiRef) : (List Str) → (List Str → Option Bool) → Option Bool :=
  fun l161 nxb21 => if 0 < (y19.length : Int) then ((atI y19 (wr ((y19.length : Int) - 1))).bind fun y185 => go_law11_PlanUnneeded.j1 y11 l161 a21 nxb21 (decide (y185 = a21))) else (go_law11_PlanUnneeded.j1 y11 l161 a21 nxb21 false)
def go_law11_PlanUnneeded (p0 : List law11Ref) (p1 : UInt8) (p2 : UInt8) : Option Bool :=
  (go_law11_awake).bind fun y4 => if y4 then ((go_law11_Set p0 p1).bind fun y6 => (go_law11_full y6 ((p2 % 30).toNat : Int)).bind fun y11 => (go_law11_of y6 2).bind fun y19 => forL (go_law11_PlanUnneeded.b1 y11 y19) (fun l161 => (go_plan_Unneeded y6 ((p2 % 30).toNat : Int)).bind fun y199 => if (y199.length : Int) = (l161.length : Int) then (forL (go_law11_PlanUnneeded.b2 l161) (fun _ => some true) 0 y199 ()) else (some false)) 0 y6.Refs []) else (some false)
set_option maxRecDepth 100000 in
set_option maxHeartbeats 4000000 in
theorem go_law11_PlanUnneeded.walk {w0 w : World} {X : List Res} {z0 : Zp} {p0 : List law11Ref} {A1 : Option Addr} {c1 : Nat} {p1 : UInt8} {p2 : UInt8} {r : Bool} (hst : Ht w0 (frz z0 :: X) w) (f1 : Sl tlaw11Ref z0 A1 c1 p0) (hf : go_law11_PlanUnneeded p0 p1 p2 = some r) :
    Calls Try.prog 8 #[.slice A1 p0.length c1, vu8 p1, vu8 p2] w fun e w' => ∃ (z' : Zp), e = .returned (vb r) ∧ Le z0 z' ∧ Ht w0 (frz z' :: X) w' := by
  refine calls_np Try.func8 rfl rfl ?_
  have hle0 := Le.refl z0
  unfold go_law11_PlanUnneeded at hf
  refine Run.seq ?_
  refine Run.region ?_
  refine Ops.ex (Ex.assign rfl) rfl rfl rfl ?_
  refine Ops.nil ?_
  refine Run.seq ?_
  refine Run.seq ?_
  refine Run.region ?_
  obtain ⟨y4, hy4, hf⟩ := bnd hf
  refine Ops.call rfl rfl Try.func10 (by kernel_rfl) (by kernel_rfl) rfl (go_law11_awake.walk (hst := hst) (hf := hy4)) ?_
  rintro _ w4 ⟨z4, rfl, hz4, hst4⟩
  refine ⟨_, rfl, ?_⟩
  replace f1 := f1.mono hz4
  replace hle0 := hle0.trans hz4
  refine Ops.ex (Ex.not rfl) rfl rfl rfl ?_
  refine Ops.nil ?_
  refine Run.cond rfl (fun hc => ?_) (fun hc => ?_)
  · replace hf := ifFb (bn_T hc) hf
    refine Run.seq ?_
    refine Run.region ?_
    refine Ops.ex (Ex.assign rfl) rfl rfl rfl ?_
    refine Ops.nil ?_
    obtain rfl := Option.some.inj hf
    exact Run.retV [vb false] rfl ⟨rfl, trivial⟩ ⟨z4, rfl, hle0, hst4⟩
  · replace hf := ifTb (bn_F hc) hf
    refine Run.skip ?_
    refine Run.seq ?_
    refine Run.region ?_
    refine Ops.ex (Ex.move rfl) rfl rfl rfl ?_
    refine Ops.ex (Ex.move rfl) rfl rfl rfl ?_
    obtain ⟨y6, hy6, hf⟩ := bnd hf
    refine Ops.call rfl rfl Try.func11 (by kernel_rfl) (by kernel_rfl) rfl (go_law11_Set.walk (p0 := p0) (p1 := p1) (hst := hst4) (f1 := f1) (hf := hy6)) ?_
    rintro _ w6 ⟨z6, A7, c7, rfl, hz6, f7, hst6⟩
    refine ⟨_, rfl, ?_⟩
    replace f1 := f1.mono hz6
    replace hle0 := hle0.trans hz6
    refine Ops.allocF [.slice none 0 0, vi 0] hst6 zr27 rfl rfl (fun g9 w9 hst9 => ?_)
    refine Ops.store 1 [.slice A7 y6.Refs.length c7, vi y6.Floor] hst9 rfl rfl rfl rfl sz27 rfl (by simp [Value.oneCell']) (by simp) (fun w10 hst10 => ?_)
    refine Ops.nil ?_
    refine Run.seq ?_
    refine Run.region ?_
    refine Ops.ex (Ex.move rfl) rfl rfl rfl ?_
    refine Ops.ex (Ex.rem8 (a := p2) (b := 30) rfl rfl (by decide)) rfl rfl rfl ?_
    refine Ops.ex (Ex.cu8 rfl Try.underlying5 Try.underlying3) rfl rfl rfl ?_
    refine Ops.ex (Ex.assign rfl) rfl rfl rfl ?_
    refine Ops.nil ?_
    refine Run.seq ?_
    refine Run.region ?_
    refine Ops.loadAgg _ rfl Try.underlying27 rfl sz27 rfl (hst10.cells (i := 1) rfl 0 2) rfl ?_
    refine Ops.ex (Ex.move rfl) rfl rfl rfl ?_
    obtain ⟨y11, hy11, hf⟩ := bnd hf
    refine Ops.call rfl rfl Try.func13 (by kernel_rfl) (by kernel_rfl) rfl (go_law11_full.walk (p0 := y6) (p1 := ((p2 % 30).toNat : Int)) (hst := hst10) (f1 := f7) (hf := hy11)) ?_
    rintro _ w11 ⟨z11, rfl, hz11, hst11⟩
    refine ⟨_, rfl, ?_⟩
    replace f1 := f1.mono hz11; replace f7 := f7.mono hz11
    replace hle0 := hle0.trans hz11
    refine Ops.ex (Ex.move rfl) rfl rfl rfl ?_
    refine Ops.ex (Ex.extract rfl rfl) rfl rfl rfl ?_
    refine Ops.ex (Ex.extract rfl rfl) rfl rfl rfl ?_
    refine Ops.allocF [vs [], vi 0, vi 0, vi 0] hst11 zr37 rfl rfl (fun g17 w17 hst17 => ?_)
    refine Ops.store 1 [vs y11.1.Name, vi y11.1.Kind, vi y11.1.From, vi y11.1.To] hst17 rfl rfl rfl rfl sz37 rfl (by simp [Value.oneCell']) (by simp) (fun w18 hst18 => ?_)
    refine Ops.ex (Ex.assign rfl) rfl rfl rfl ?_
    refine Ops.nil ?_
    refine Run.seq ?_
    refine Run.region ?_
    refine Ops.loadAgg _ rfl Try.underlying27 rfl sz27 rfl (hst18.cells (i := 2) rfl 0 2) rfl ?_
    obtain ⟨y19, hy19, hf⟩ := bnd hf
    refine Ops.call rfl rfl Try.func14 (by kernel_rfl) (by kernel_rfl) rfl (go_law11_of.walk (p0 := y6) (p1 := 2) (hst := hst18) (f1 := f7) (hf := hy19)) ?_
    rintro _ w19 ⟨z19, A20, c20, rfl, hz19, f20, hst19⟩
    refine ⟨_, rfl, ?_⟩
    replace f1 := f1.mono hz19; replace f7 := f7.mono hz19
    replace hle0 := hle0.trans hz19
    refine Ops.ex (Ex.assign rfl) rfl rfl rfl ?_
    refine Ops.nil ?_
    refine Run.seq ?_
    refine Run.region ?_
    refine Ops.ex (Ex.assign rfl) rfl rfl rfl ?_
    refine Ops.nil ?_
    refine Run.seq ?_
    refine Run.seq ?_
    refine Run.region ?_
    refine Ops.ex (Ex.fieldAddr rfl Try.underlying27 rfl sz25) rfl rfl rfl ?_
    refine Ops.load rfl Try.underlying25 rfl (hst19.cell (i := 2) rfl rfl) rfl ?_
    refine Ops.ex (Ex.len' rfl rfl rfl Try.underlying25) rfl rfl rfl ?_
    refine Ops.ex (Ex.move rfl) rfl rfl rfl ?_
    refine Ops.nil ?_
    refine Run.block ?_
    have hc21 := f7.cap
    have hm22 := Le.refl z19
    have hst162 := hst19.row0 9 1
    refine Run.sub (e' := [(7, .pointer (some ⟨g9, 0, none⟩)), (8, vi ((p2 % 30).toNat : Int)), (10, vi y11.2), (11, .slice A20 y19.length c20), (12, .slice none 0 0), (35, .slice A7 y6.Refs.length c7), (36, vi (y6.Refs.length : Int)), (37, vi ((0 : Nat) : Int))]) (subB_spec ⟨rfl, rfl, rfl, rfl, rfl, rfl, rfl, rfl, trivial⟩) ?_
    refine Run.loop (fun mb21 => (fun e' w' => ∃ (i21 : Nat) (l161 : List Str) (A161 : Option Addr) (c161 : Nat) (d161 : List Value) (z160 : Zp), mb21 = y6.Refs.length - i21 ∧ i21 ≤ y6.Refs.length ∧ forL (go_law11_PlanUnneeded.b1 y11 y19) (fun l161 => (go_plan_Unneeded y6 ((p2 % 30).toNat : Int)).bind fun y199 => if (y199.length : Int) = (l161.length : Int) then (forL (go_law11_PlanUnneeded.b2 l161) (fun _ => some true) 0 y199 ()) else (some false)) i21 (y6.Refs.drop i21) l161 = some r ∧ e' = [(7, .pointer (some ⟨g9, 0, none⟩)), (8, vi ((p2 % 30).toNat : Int)), (10, vi y11.2), (11, .slice A20 y19.length c20), (12, .slice A161 l161.length c161), (35, .slice A7 y6.Refs.length c7), (36, vi (y6.Refs.length : Int)), (37, vi (i21 : Int))] ∧ Le z19 z160 ∧ Le z0 z160 ∧ Cs tS z160 d161 l161 ∧ Ht w0 (frz z160 :: (orow 9 1 (.slice A161 l161.length c161) l161.length d161) :: (blk g9 [.slice A7 y6.Refs.length c7, vi y6.Floor] 27) :: X) w')) y6.Refs.length ⟨0, [], none, 0, [], z19, rfl, Nat.zero_le _, hf, rfl, hm22, hle0, (Cs.nil _ _), (St.forget hst162 2)⟩ ?_
    rintro _ e' w164 ⟨i21, l161, A161, c161, d161, z160, rfl, hi21, hf, rfl, hz164, hy164_0, f161, hst164⟩
    replace f20 := f20.mono hz164; replace f7 := f7.mono hz164
    refine Run.seq ?_
    refine Run.region ?_
    refine Ops.ex (Ex.lss rfl rfl) rfl rfl rfl ?_
    refine Ops.nil ?_
    refine Run.seq ?_
    refine Run.cond rfl (fun hc => ?_) (fun hc => ?_)
    · have hl21 := lt_of_dec hc
      obtain ⟨a21, nxb21, ha21, hnxb21, hf⟩ := forL_in hf hl21
      unfold go_law11_PlanUnneeded.b1 at hf
      try dsimp only at hf
      refine Run.skip ?_
      refine Run.seq ?_
      refine Run.block ?_
      refine Run.seq ?_
      refine Run.region ?_
      obtain ⟨g169, p169, o169, cs169, hA169, ho169, hr169, f169⟩ := SlH.elem f7.toH (atI_nat ha21)
      obtain rfl := hr169
      refine Ops.ex (Ex.ixA hA169 ho169 (atI_nat ha21) rfl rfl rfl Try.underlying25 sz37) rfl rfl rfl ?_
      refine Ops.loadAgg [vs a21.Name, vi a21.Kind, vi a21.From, vi a21.To] rfl Try.underlying37 rfl sz37 rfl (cells_of_zc rfl (f169.mono hst164.le)) rfl ?_
      refine Ops.allocF [vs [], vi 0, vi 0, vi 0] hst164 zr37 rfl rfl (fun g170 w170 hst170 => ?_)
      refine Ops.store 1 [vs a21.Name, vi a21.Kind, vi a21.From, vi a21.To] hst170 rfl rfl rfl rfl sz37 rfl (by simp [Value.oneCell']) (by simp) (fun w171 hst171 => ?_)
      refine Ops.nil ?_
      refine Run.seq ?_
      have hm181 := Le.refl z160
      apply Run.jn (fun e' w' => ∃ (b183 : Bool) (z182 : Zp), go_law11_PlanUnneeded.j1 y11 l161 a21 nxb21 b183 = some r ∧ e' = [(7, .pointer (some ⟨g9, 0, none⟩)), (8, vi ((p2 % 30).toNat : Int)), (10, vi y11.2), (11, .slice A20 y19.length c20), (12, .slice A161 l161.length c161), (14, .pointer (some ⟨g170, 0, none⟩)), (15, vb b183), (35, .slice A7 y6.Refs.length c7), (36, vi (y6.Refs.length : Int)), (37, vi (i21 : Int))] ∧ Le z160 z182 ∧ Le z0 z182 ∧ Le z19 z182 ∧ Ht w0 (frz z182 :: (blk g170 [vs a21.Name, vi a21.Kind, vi a21.From, vi a21.To] 37) :: (orow 9 1 (.slice A161 l161.length c161) l161.length d161) :: (blk g9 [.slice A7 y6.Refs.length c7, vi y6.Floor] 27) :: X) w')
      · intro hj172
        refine Run.drawH [([], fun w => ∃ ζ Y, Le z160 ζ ∧ Ht w0 (frz ζ :: (blk g170 [vs a21.Name, vi a21.Kind, vi a21.From, vi a21.To] 37) :: (orow 9 1 (.slice A161 l161.length c161) l161.length d161) :: (blk g9 [.slice A7 y6.Refs.length c7, vi y6.Floor] 27) :: Y) w)] (by kernel_rfl) hst171 (fun w184 hst184 => ?_)
        have hS0 := (⟨_, _, (Le.refl _), (St.up (St.up (St.up (St.up hst184 3 rfl) 3 rfl) 3 rfl) 3 rfl)⟩ : (fun w => ∃ ζ Y, Le z160 ζ ∧ Ht w0 (frz ζ :: (blk g170 [vs a21.Name, vi a21.Kind, vi a21.From, vi a21.To] 37) :: (orow 9 1 (.slice A161 l161.length c161) l161.length d161) :: (blk g9 [.slice A7 y6.Refs.length c7, vi y6.Floor] 27) :: Y) w) _)
        refine Any.takeE 0 rfl rfl rfl rfl (by kernel_rfl) (fun _ _ _ _ _ h => h) ((Ex.move rfl).s) ?_
        refine Any.takeE 1 rfl rfl rfl rfl (by kernel_rfl) (fun _ _ _ _ _ h => h) ((Ex.len' rfl rfl rfl Try.underlying25).s) ?_
        refine Any.takeE 2 rfl rfl rfl rfl (by kernel_rfl) (fun _ _ _ _ _ h => h) ((Ex.gtr rfl rfl).s) ?_
        refine Any.takeE 3 rfl rfl rfl rfl (by kernel_rfl) (fun _ _ _ _ _ h => h) ((Ex.move rfl).s) ?_
        refine Any.case 44 rfl (fun hc => ?_) (fun hc => ?_)
        · replace hf := ifT (dec_T hc) hf
          refine Any.takeE 4 rfl rfl rfl rfl (by kernel_rfl) (fun _ _ _ _ _ h => h) (ExS.g ((Ex.move rfl).s)) ?_
          refine Any.takeE 5 rfl rfl rfl rfl (by kernel_rfl) (fun _ _ _ _ _ h => h) (ExS.g ((Ex.move rfl).s)) ?_
          refine Any.takeE 6 rfl rfl rfl rfl (by kernel_rfl) (fun _ _ _ _ _ h => h) (ExS.g ((Ex.len' rfl rfl rfl Try.underlying25).s)) ?_
          refine Any.takeE 7 rfl rfl rfl rfl (by kernel_rfl) (fun _ _ _ _ _ h => h) (ExS.g ((Ex.sub rfl rfl).s)) ?_
          obtain ⟨y185, hy185, hf⟩ := bnd hf
          obtain ⟨g190, p190, o190, cs190, hA190, ho190, hr190, f190⟩ := SlH.elem f20.toH hy185
          obtain rfl := hr190
          refine Any.takeE 8 rfl rfl rfl rfl (by kernel_rfl) (fun _ _ _ _ _ h => h) (ExS.g ((Ex.ixA hA190 ho190 hy185 rfl rfl rfl Try.underlying25 sz37).s)) ?_
          refine Any.take 0 9 rfl rfl rfl rfl rfl (by kernel_rfl) (fun _ _ _ _ _ h => h) (ExS.g (ExS.loadAgg [vs y185.Name, vi y185.Kind, vi y185.From, vi y185.To] rfl Try.underlying37 rfl sz37 rfl (fun w hS => by obtain ⟨_, _, hz, hs⟩ := hS; exact cells_of_zc rfl (f190.mono (hz.trans hs.le))))) hS0 ?_
          refine Any.take 0 10 rfl rfl rfl rfl rfl (by kernel_rfl) (fun _ _ _ _ _ h => h) (ExS.g (ExS.loadAgg [vs a21.Name, vi a21.Kind, vi a21.From, vi a21.To] rfl Try.underlying37 rfl sz37 rfl (fun w hS => by obtain ⟨_, _, _, hs⟩ := hS; exact hs.cells (i := 1) rfl 0 4))) hS0 ?_
          refine Any.takeE 11 rfl rfl rfl rfl (by kernel_rfl) (fun _ _ _ _ _ h => h) (ExS.g ((Ex.eqlV rfl rfl (eqv37 9998 y185 a21) (by kernel_rfl)).s)) ?_
          refine Any.takeE 12 rfl rfl rfl rfl (by kernel_rfl) (fun _ _ _ _ _ h => h) ((Ex.pickT rfl rfl).s) ?_
          refine Any.takeE 13 rfl rfl rfl rfl (by kernel_rfl) (fun _ _ _ _ _ h => h) ((Ex.assign rfl).s) ?_
          refine Any.done (by kernel_rfl) ?_
          exact Run.sub (by exact subB_spec ⟨rfl, rfl, rfl, rfl, rfl, rfl, rfl, rfl, rfl, rfl, trivial⟩) (hj172 _ _ ⟨decide (y185 = a21), z160, hf, rfl, hm181, hy164_0, hz164, hst184⟩)
        · replace hf := ifF (dec_F hc) hf
          refine Any.pass 4 rfl rfl rfl rfl (by kernel_rfl) (fun _ _ _ _ _ h => h) ?_
          refine Any.pass 5 rfl rfl rfl rfl (by kernel_rfl) (fun _ _ _ _ _ h => h) ?_
          refine Any.pass 6 rfl rfl rfl rfl (by kernel_rfl) (fun _ _ _ _ _ h => h) ?_
          refine Any.pass 7 rfl rfl rfl rfl (by kernel_rfl) (fun _ _ _ _ _ h => h) ?_
          refine Any.pass 8 rfl rfl rfl rfl (by kernel_rfl) (fun _ _ _ _ _ h => h) ?_
          refine Any.pass 9 rfl rfl rfl rfl (by kernel_rfl) (fun _ _ _ _ _ h => h) ?_
          refine Any.pass 10 rfl rfl rfl rfl (by kernel_rfl) (fun _ _ _ _ _ h => h) ?_
          refine Any.pass 11 rfl rfl rfl rfl (by kernel_rfl) (fun _ _ _ _ _ h => h) ?_
          refine Any.takeE 12 rfl rfl rfl rfl (by kernel_rfl) (fun _ _ _ _ _ h => h) ((Ex.pickF rfl rfl).s) ?_
          refine Any.takeE 13 rfl rfl rfl rfl (by kernel_rfl) (fun _ _ _ _ _ h => h) ((Ex.assign rfl).s) ?_
          refine Any.done (by kernel_rfl) ?_
          exact Run.sub (by exact subB_spec ⟨rfl, rfl, rfl, rfl, rfl, rfl, rfl, rfl, rfl, rfl, trivial⟩) (hj172 _ _ ⟨false, z160, hf, rfl, hm181, hy164_0, hz164, hst184⟩)
      · rintro e' w191 ⟨b183, z182, hf, rfl, hz191, hy191_0, hy191_1, hst191⟩
        replace f20 := f20.mono hz191; replace f7 := f7.mono hz191; replace f161 := f161.mono hz191
        unfold go_law11_PlanUnneeded.j1 at hf
        refine Run.seq ?_
        have hm193 := Le.refl z182
        apply Run.jn (fun e' w' => ∃ (b195 : Bool) (z194 : Zp), go_law11_PlanUnneeded.j2 l161 a21 nxb21 b195 = some r ∧ e' = [(7, .pointer (some ⟨g9, 0, none⟩)), (8, vi ((p2 % 30).toNat : Int)), (10, vi y11.2), (11, .slice A20 y19.length c20), (12, .slice A161 l161.length c161), (14, .pointer (some ⟨g170, 0, none⟩)), (35, .slice A7 y6.Refs.length c7), (36, vi (y6.Refs.length : Int)), (37, vi (i21 : Int)), (83, vb b195)] ∧ Le z182 z194 ∧ Le z0 z194 ∧ Le z19 z194 ∧ Le z160 z194 ∧ Ht w0 (frz z194 :: (blk g170 [vs a21.Name, vi a21.Kind, vi a21.From, vi a21.To] 37) :: (orow 9 1 (.slice A161 l161.length c161) l161.length d161) :: (blk g9 [.slice A7 y6.Refs.length c7, vi y6.Floor] 27) :: X) w')
        · intro hj192
          refine Run.region ?_
          refine Ops.ex (Ex.fieldAddr rfl Try.underlying37 rfl sz35) rfl rfl rfl ?_
          refine Ops.load rfl Try.underlying35 rfl (hst191.cell (i := 1) rfl rfl) rfl ?_
          refine Ops.ex (Ex.eqlI rfl rfl) rfl rfl rfl ?_
          refine Ops.ex (Ex.move rfl) rfl rfl rfl ?_
          refine Ops.case 57 rfl (fun hc => ?_) (fun hc => ?_)
          · replace hf := ifT (dec_T hc) hf
            refine Ops.on rfl ?_
            refine Ops.ex (Ex.fieldAddr rfl Try.underlying37 rfl sz3) rfl rfl rfl ?_
            refine Ops.on rfl ?_
            refine Ops.load rfl Try.underlying3 rfl (hst191.cell (i := 1) rfl rfl) rfl ?_
            refine Ops.on rfl ?_
            refine Ops.ex (Ex.move rfl) rfl rfl rfl ?_
            refine Ops.on rfl ?_
            refine Ops.ex (Ex.lss rfl rfl) rfl rfl rfl ?_
            refine Ops.ex (Ex.pickT rfl rfl) rfl rfl rfl ?_
            refine Ops.ex (Ex.move rfl) rfl rfl rfl ?_
            refine Ops.case 63 rfl (fun hc => ?_) (fun hc => ?_)
            · replace hf := ifT (dec_T hc) hf
              refine Ops.off rfl rfl ?_
              refine Ops.off rfl rfl ?_
              refine Ops.off rfl rfl ?_
              refine Ops.off rfl rfl ?_
              refine Ops.offU rfl rfl ?_
              refine Ops.offU rfl rfl ?_
              refine Ops.off rfl rfl ?_
              refine Ops.off rfl rfl ?_
              refine Ops.offU rfl rfl ?_
              refine Ops.offU rfl rfl ?_
              refine Ops.offU rfl rfl ?_
              refine Ops.offU rfl rfl ?_
              refine Ops.off rfl rfl ?_
              refine Ops.off rfl rfl ?_
              refine Ops.offU rfl rfl ?_
              refine Ops.offU rfl rfl ?_
              refine Ops.offU rfl rfl ?_
              refine Ops.offU rfl rfl ?_
              refine Ops.off rfl rfl ?_
              refine Ops.ex (Ex.pickT rfl rfl) rfl rfl rfl ?_
              refine Ops.nil ?_
              exact Run.sub (by exact subB_spec ⟨rfl, rfl, rfl, rfl, rfl, rfl, rfl, rfl, rfl, rfl, trivial⟩) (hj192 _ _ ⟨true, z182, hf, rfl, hm193, hy191_0, hy191_1, hz191, hst191⟩)
            · replace hf := ifF (dec_F hc) hf
              refine Ops.on rfl ?_
              refine Ops.ex (Ex.fieldAddr rfl Try.underlying37 rfl sz35) rfl rfl rfl ?_
              refine Ops.on rfl ?_
              refine Ops.load rfl Try.underlying35 rfl (hst191.cell (i := 1) rfl rfl) rfl ?_
              refine Ops.on rfl ?_
              refine Ops.ex (Ex.neqI rfl rfl) rfl rfl rfl ?_
              refine Ops.on rfl ?_
              refine Ops.ex (Ex.move rfl) rfl rfl rfl ?_
              refine Ops.case 67 rfl (fun hc => ?_) (fun hc => ?_)
              · replace hf := ifF (neq_T hc) hf
                refine Ops.on rfl ?_
                refine Ops.ex (Ex.move rfl) rfl rfl rfl ?_
                refine Ops.on rfl ?_
                refine Ops.ex (Ex.not rfl) rfl rfl rfl ?_
                refine Ops.on rfl ?_
                refine Ops.ex (Ex.pickT rfl rfl) rfl rfl rfl ?_
                refine Ops.on rfl ?_
                refine Ops.ex (Ex.move rfl) rfl rfl rfl ?_
                refine Ops.case 71 rfl (fun hc => ?_) (fun hc => ?_)
                · replace hf := ifFb (bn_T hc) hf
                  refine Ops.on rfl ?_
                  refine Ops.ex (Ex.fieldAddr rfl Try.underlying37 rfl sz3) rfl rfl rfl ?_
                  refine Ops.on rfl ?_
                  refine Ops.load rfl Try.underlying3 rfl (hst191.cell (i := 1) rfl rfl) rfl ?_
                  refine Ops.on rfl ?_
                  refine Ops.ex (Ex.move rfl) rfl rfl rfl ?_
                  refine Ops.on rfl ?_
                  refine Ops.ex (Ex.leq rfl rfl) rfl rfl rfl ?_
                  refine Ops.on rfl ?_
                  refine Ops.ex (Ex.pickT rfl rfl) rfl rfl rfl ?_
                  refine Ops.on rfl ?_
                  refine Ops.ex (Ex.move rfl) rfl rfl rfl ?_
                  refine Ops.case 77 rfl (fun hc => ?_) (fun hc => ?_)
                  · replace hf := ifT (dec_T hc) hf
                    refine Ops.on rfl ?_
                    refine Ops.ex (Ex.fieldAddr rfl Try.underlying37 rfl sz3) rfl rfl rfl ?_
                    refine Ops.on rfl ?_
                    refine Ops.load rfl Try.underlying3 rfl (hst191.cell (i := 1) rfl rfl) rfl ?_
                    refine Ops.on rfl ?_
                    refine Ops.ex (Ex.move rfl) rfl rfl rfl ?_
                    refine Ops.on rfl ?_
                    refine Ops.ex (Ex.lss rfl rfl) rfl rfl rfl ?_
                    refine Ops.on rfl ?_
                    refine Ops.ex (Ex.pickT rfl rfl) rfl rfl rfl ?_
                    refine Ops.ex (Ex.pickF rfl rfl) rfl rfl rfl ?_
                    refine Ops.nil ?_
                    exact Run.sub (by exact subB_spec ⟨rfl, rfl, rfl, rfl, rfl, rfl, rfl, rfl, rfl, rfl, trivial⟩) (hj192 _ _ ⟨decide (a21.From < y11.2), z182, hf, rfl, hm193, hy191_0, hy191_1, hz191, hst191⟩)
                  · replace hf := ifF (dec_F hc) hf
                    refine Ops.off rfl rfl ?_
                    refine Ops.off rfl rfl ?_
                    refine Ops.off rfl rfl ?_
                    refine Ops.off rfl rfl ?_
                    refine Ops.on rfl ?_
                    refine Ops.ex (Ex.pickF rfl rfl) rfl rfl rfl ?_
                    refine Ops.ex (Ex.pickF rfl rfl) rfl rfl rfl ?_
                    refine Ops.nil ?_
                    exact Run.sub (by exact subB_spec ⟨rfl, rfl, rfl, rfl, rfl, rfl, rfl, rfl, rfl, rfl, trivial⟩) (hj192 _ _ ⟨false, z182, hf, rfl, hm193, hy191_0, hy191_1, hz191, hst191⟩)
                · replace hf := ifTb (bn_F hc) hf
                  refine Ops.off rfl rfl ?_
                  refine Ops.off rfl rfl ?_
                  refine Ops.off rfl rfl ?_
                  refine Ops.off rfl rfl ?_
                  refine Ops.on rfl ?_
                  refine Ops.ex (Ex.pickF rfl rfl) rfl rfl rfl ?_
                  refine Ops.on rfl ?_
                  refine Ops.ex (Ex.move rfl) rfl rfl rfl ?_
                  refine Ops.off rfl rfl ?_
                  refine Ops.off rfl rfl ?_
                  refine Ops.off rfl rfl ?_
                  refine Ops.off rfl rfl ?_
                  refine Ops.on rfl ?_
                  refine Ops.ex (Ex.pickF rfl rfl) rfl rfl rfl ?_
                  refine Ops.ex (Ex.pickF rfl rfl) rfl rfl rfl ?_
                  refine Ops.nil ?_
                  exact Run.sub (by exact subB_spec ⟨rfl, rfl, rfl, rfl, rfl, rfl, rfl, rfl, rfl, rfl, trivial⟩) (hj192 _ _ ⟨false, z182, hf, rfl, hm193, hy191_0, hy191_1, hz191, hst191⟩)
              · replace hf := ifT (neq_F hc) hf
                refine Ops.off rfl rfl ?_
                refine Ops.off rfl rfl ?_
                refine Ops.on rfl ?_
                refine Ops.ex (Ex.pickF rfl rfl) rfl rfl rfl ?_
                refine Ops.on rfl ?_
                refine Ops.ex (Ex.move rfl) rfl rfl rfl ?_
                refine Ops.off rfl rfl ?_
                refine Ops.off rfl rfl ?_
                refine Ops.off rfl rfl ?_
                refine Ops.off rfl rfl ?_
                refine Ops.on rfl ?_
                refine Ops.ex (Ex.pickF rfl rfl) rfl rfl rfl ?_
                refine Ops.on rfl ?_
                refine Ops.ex (Ex.move rfl) rfl rfl rfl ?_
                refine Ops.off rfl rfl ?_
                refine Ops.off rfl rfl ?_
                refine Ops.off rfl rfl ?_
                refine Ops.off rfl rfl ?_
                refine Ops.on rfl ?_
                refine Ops.ex (Ex.pickF rfl rfl) rfl rfl rfl ?_
                refine Ops.ex (Ex.pickF rfl rfl) rfl rfl rfl ?_
                refine Ops.nil ?_
                exact Run.sub (by exact subB_spec ⟨rfl, rfl, rfl, rfl, rfl, rfl, rfl, rfl, rfl, rfl, trivial⟩) (hj192 _ _ ⟨false, z182, hf, rfl, hm193, hy191_0, hy191_1, hz191, hst191⟩)
          · replace hf := ifF (dec_F hc) hf
            refine Ops.off rfl rfl ?_
            refine Ops.off rfl rfl ?_
            refine Ops.off rfl rfl ?_
            refine Ops.off rfl rfl ?_
            refine Ops.ex (Ex.pickF rfl rfl) rfl rfl rfl ?_
            refine Ops.ex (Ex.move rfl) rfl rfl rfl ?_
            refine Ops.on rfl ?_
            refine Ops.ex (Ex.fieldAddr rfl Try.underlying37 rfl sz35) rfl rfl rfl ?_
            refine Ops.on rfl ?_
            refine Ops.load rfl Try.underlying35 rfl (hst191.cell (i := 1) rfl rfl) rfl ?_
            refine Ops.on rfl ?_
            refine Ops.ex (Ex.neqI rfl rfl) rfl rfl rfl ?_
            refine Ops.on rfl ?_
            refine Ops.ex (Ex.move rfl) rfl rfl rfl ?_
            refine Ops.case 67 rfl (fun hc => ?_) (fun hc => ?_)
            · replace hf := ifF (neq_T hc) hf
              refine Ops.on rfl ?_
              refine Ops.ex (Ex.move rfl) rfl rfl rfl ?_
              refine Ops.on rfl ?_
              refine Ops.ex (Ex.not rfl) rfl rfl rfl ?_
              refine Ops.on rfl ?_
              refine Ops.ex (Ex.pickT rfl rfl) rfl rfl rfl ?_
              refine Ops.on rfl ?_
              refine Ops.ex (Ex.move rfl) rfl rfl rfl ?_
              refine Ops.case 71 rfl (fun hc => ?_) (fun hc => ?_)
              · replace hf := ifFb (bn_T hc) hf
                refine Ops.on rfl ?_
                refine Ops.ex (Ex.fieldAddr rfl Try.underlying37 rfl sz3) rfl rfl rfl ?_
                refine Ops.on rfl ?_
                refine Ops.load rfl Try.underlying3 rfl (hst191.cell (i := 1) rfl rfl) rfl ?_
                refine Ops.on rfl ?_
                refine Ops.ex (Ex.move rfl) rfl rfl rfl ?_
                refine Ops.on rfl ?_
                refine Ops.ex (Ex.leq rfl rfl) rfl rfl rfl ?_
                refine Ops.on rfl ?_
                refine Ops.ex (Ex.pickT rfl rfl) rfl rfl rfl ?_
                refine Ops.on rfl ?_
                refine Ops.ex (Ex.move rfl) rfl rfl rfl ?_
                refine Ops.case 77 rfl (fun hc => ?_) (fun hc => ?_)
                · replace hf := ifT (dec_T hc) hf
                  refine Ops.on rfl ?_
                  refine Ops.ex (Ex.fieldAddr rfl Try.underlying37 rfl sz3) rfl rfl rfl ?_
                  refine Ops.on rfl ?_
                  refine Ops.load rfl Try.underlying3 rfl (hst191.cell (i := 1) rfl rfl) rfl ?_
                  refine Ops.on rfl ?_
                  refine Ops.ex (Ex.move rfl) rfl rfl rfl ?_
                  refine Ops.on rfl ?_
                  refine Ops.ex (Ex.lss rfl rfl) rfl rfl rfl ?_
                  refine Ops.on rfl ?_
                  refine Ops.ex (Ex.pickT rfl rfl) rfl rfl rfl ?_
                  refine Ops.ex (Ex.pickF rfl rfl) rfl rfl rfl ?_
                  refine Ops.nil ?_
                  exact Run.sub (by exact subB_spec ⟨rfl, rfl, rfl, rfl, rfl, rfl, rfl, rfl, rfl, rfl, trivial⟩) (hj192 _ _ ⟨decide (a21.From < y11.2), z182, hf, rfl, hm193, hy191_0, hy191_1, hz191, hst191⟩)
                · replace hf := ifF (dec_F hc) hf
                  refine Ops.off rfl rfl ?_
                  refine Ops.off rfl rfl ?_
                  refine Ops.off rfl rfl ?_
                  refine Ops.off rfl rfl ?_
                  refine Ops.on rfl ?_
                  refine Ops.ex (Ex.pickF rfl rfl) rfl rfl rfl ?_
                  refine Ops.ex (Ex.pickF rfl rfl) rfl rfl rfl ?_
                  refine Ops.nil ?_
                  exact Run.sub (by exact subB_spec ⟨rfl, rfl, rfl, rfl, rfl, rfl, rfl, rfl, rfl, rfl, trivial⟩) (hj192 _ _ ⟨false, z182, hf, rfl, hm193, hy191_0, hy191_1, hz191, hst191⟩)
              · replace hf := ifTb (bn_F hc) hf
                refine Ops.off rfl rfl ?_
                refine Ops.off rfl rfl ?_
                refine Ops.off rfl rfl ?_
                refine Ops.off rfl rfl ?_
                refine Ops.on rfl ?_
                refine Ops.ex (Ex.pickF rfl rfl) rfl rfl rfl ?_
                refine Ops.on rfl ?_
                refine Ops.ex (Ex.move rfl) rfl rfl rfl ?_
                refine Ops.off rfl rfl ?_
                refine Ops.off rfl rfl ?_
                refine Ops.off rfl rfl ?_
                refine Ops.off rfl rfl ?_
                refine Ops.on rfl ?_
                refine Ops.ex (Ex.pickF rfl rfl) rfl rfl rfl ?_
                refine Ops.ex (Ex.pickF rfl rfl) rfl rfl rfl ?_
                refine Ops.nil ?_
                exact Run.sub (by exact subB_spec ⟨rfl, rfl, rfl, rfl, rfl, rfl, rfl, rfl, rfl, rfl, trivial⟩) (hj192 _ _ ⟨false, z182, hf, rfl, hm193, hy191_0, hy191_1, hz191, hst191⟩)
            · replace hf := ifT (neq_F hc) hf
              refine Ops.off rfl rfl ?_
              refine Ops.off rfl rfl ?_
              refine Ops.on rfl ?_
              refine Ops.ex (Ex.pickF rfl rfl) rfl rfl rfl ?_
              refine Ops.on rfl ?_
              refine Ops.ex (Ex.move rfl) rfl rfl rfl ?_
              refine Ops.off rfl rfl ?_
              refine Ops.off rfl rfl ?_
              refine Ops.off rfl rfl ?_
              refine Ops.off rfl rfl ?_
              refine Ops.on rfl ?_
              refine Ops.ex (Ex.pickF rfl rfl) rfl rfl rfl ?_
              refine Ops.on rfl ?_
              refine Ops.ex (Ex.move rfl) rfl rfl rfl ?_
              refine Ops.off rfl rfl ?_
              refine Ops.off rfl rfl ?_
              refine Ops.off rfl rfl ?_
              refine Ops.off rfl rfl ?_
              refine Ops.on rfl ?_
              refine Ops.ex (Ex.pickF rfl rfl) rfl rfl rfl ?_
              refine Ops.ex (Ex.pickF rfl rfl) rfl rfl rfl ?_
              refine Ops.nil ?_
              exact Run.sub (by exact subB_spec ⟨rfl, rfl, rfl, rfl, rfl, rfl, rfl, rfl, rfl, rfl, trivial⟩) (hj192 _ _ ⟨false, z182, hf, rfl, hm193, hy191_0, hy191_1, hz191, hst191⟩)
        · rintro e' w196 ⟨b195, z194, hf, rfl, hz196, hy196_0, hy196_1, hy196_2, hst196⟩
          replace f20 := f20.mono hz196; replace f7 := f7.mono hz196; replace f161 := f161.mono hz196
          unfold go_law11_PlanUnneeded.j2 at hf
          refine Run.cond rfl (fun hc => ?_) (fun hc => ?_)
          · replace hf := ifTb hc hf
            refine Run.region ?_
            refine Ops.ex (Ex.move rfl) rfl rfl rfl ?_
            refine Ops.ex (Ex.fieldAddr rfl Try.underlying37 rfl sz9) rfl rfl rfl ?_
            refine Ops.load rfl Try.underlying9 rfl (hst196.cell (i := 1) rfl rfl) rfl ?_
            refine Ops.sliceF [vs a21.Name] hst196 rfl Try.underlying48 sz9 zr9 rfl rfl (by kernel_rfl) rfl (by simp [Value.oneCell']) rfl (fun A197 w197 hst197 => ?_)
            have f197 : Cs tS z194 [vs a21.Name] [a21.Name] := (Cs.cons (c := [vs a21.Name]) rfl (Cs.nil _ _))
            obtain ⟨l198, hy198, hf⟩ := bnd hf
            refine Ops.app 3 hst197 rfl f161 rfl (own_slh f197 rfl (hst197.get (i := 1) rfl)) rfl hy198 rfl rfl rfl rfl Try.underlying48 inf9 rfl (by decide) (by decide) rfl (fun A198 c198 d198 w198 f198 hst198 => ?_)
            refine Ops.ex (Ex.assign rfl) rfl rfl rfl ?_
            refine Ops.nil ?_
            refine Run.endBlk ?_
            refine Run.region ?_
            refine Ops.ex (Ex.add rfl rfl) rfl rfl rfl ?_
            refine Ops.ex (Ex.move rfl) rfl rfl rfl ?_
            refine Ops.nil ?_
            refine Run.re 37 rfl (congrArg vi (wr_succ' hl21 hc21)) ?_
            exact Run.sub (by exact subB_spec ⟨rfl, rfl, rfl, rfl, rfl, rfl, rfl, rfl, trivial⟩) (Run.stop ⟨y6.Refs.length - (i21 + 1), by omega, i21 + 1, l198, A198, c198, d198, z194, rfl, by omega, (hnxb21 _).symm.trans hf, rfl, hy196_1, hy196_0, f198, (St.forget (St.forget hst198 2) 1)⟩)
          · replace hf := ifFb hc hf
            refine Run.skip ?_
            refine Run.endBlk ?_
            refine Run.region ?_
            refine Ops.ex (Ex.add rfl rfl) rfl rfl rfl ?_
            refine Ops.ex (Ex.move rfl) rfl rfl rfl ?_
            refine Ops.nil ?_
            refine Run.re 37 rfl (congrArg vi (wr_succ' hl21 hc21)) ?_
            exact Run.sub (by exact subB_spec ⟨rfl, rfl, rfl, rfl, rfl, rfl, rfl, rfl, trivial⟩) (Run.stop ⟨y6.Refs.length - (i21 + 1), by omega, i21 + 1, l161, A161, c161, d161, z194, rfl, by omega, (hnxb21 _).symm.trans hf, rfl, hy196_1, hy196_0, f161, (St.forget hst196 1)⟩)
    · replace hf := forL_out hf (nlt_of_dec hc)
      try dsimp only at hf
      refine Run.exit _ rfl ?_
      refine Run.seq ?_
      refine Run.region ?_
      refine Ops.loadAgg _ rfl Try.underlying27 rfl sz27 rfl (hst164.cells (i := 2) rfl 0 2) rfl ?_
      refine Ops.ex (Ex.move rfl) rfl rfl rfl ?_
      obtain ⟨y199, hy199, hf⟩ := bnd hf
      refine Ops.call rfl rfl Try.func17 (by kernel_rfl) (by kernel_rfl) rfl (go_plan_Unneeded.walk (p0 := y6) (p1 := ((p2 % 30).toNat : Int)) (hst := hst164) (f1 := f7) (hf := hy199)) ?_
      rintro _ w199 ⟨z199, A200, c200, rfl, hz199, f200, hst199⟩
      refine ⟨_, rfl, ?_⟩
      replace f20 := f20.mono hz199; replace f7 := f7.mono hz199; replace f161 := f161.mono hz199
      replace hy164_0 := hy164_0.trans hz199
      replace hz164 := hz164.trans hz199
      refine Ops.ex (Ex.assign rfl) rfl rfl rfl ?_
      refine Ops.nil ?_
      refine Run.seq ?_
      refine Run.seq ?_
      refine Run.region ?_
      refine Ops.ex (Ex.move rfl) rfl rfl rfl ?_
      refine Ops.ex (Ex.len' rfl rfl rfl Try.underlying48) rfl rfl rfl ?_
      refine Ops.ex (Ex.move rfl) rfl rfl rfl ?_
      refine Ops.ex (Ex.len' rfl rfl rfl Try.underlying48) rfl rfl rfl ?_
      refine Ops.ex (Ex.neqI rfl rfl) rfl rfl rfl ?_
      refine Ops.nil ?_
      refine Run.cond rfl (fun hc => ?_) (fun hc => ?_)
      · replace hf := ifF (neq_T hc) hf
        refine Run.seq ?_
        refine Run.region ?_
        refine Ops.ex (Ex.assign rfl) rfl rfl rfl ?_
        refine Ops.nil ?_
        obtain rfl := Option.some.inj hf
        exact Run.retV [vb false] rfl ⟨rfl, trivial⟩ ⟨z199, rfl, hy164_0, (St.forget (St.forget hst199 2) 1)⟩
      · replace hf := ifT (neq_F hc) hf
        refine Run.skip ?_
        refine Run.seq ?_
        refine Run.seq ?_
        refine Run.region ?_
        refine Ops.ex (Ex.move rfl) rfl rfl rfl ?_
        refine Ops.ex (Ex.len' rfl rfl rfl Try.underlying48) rfl rfl rfl ?_
        refine Ops.ex (Ex.move rfl) rfl rfl rfl ?_
        refine Ops.nil ?_
        refine Run.block ?_
        have hc201 := f200.cap
        have hm202 := Le.refl z199
        refine Run.sub (e' := [(12, .slice A161 l161.length c161), (16, .slice A200 y199.length c200), (99, vi (y199.length : Int)), (100, vi ((0 : Nat) : Int))]) (subB_spec ⟨rfl, rfl, rfl, rfl, trivial⟩) ?_
        refine Run.loop (fun mb201 => (fun e' w' => ∃ (i201 : Nat) (z221 : Zp), mb201 = y199.length - i201 ∧ i201 ≤ y199.length ∧ forL (go_law11_PlanUnneeded.b2 l161) (fun _ => some true) i201 (y199.drop i201) () = some r ∧ e' = [(12, .slice A161 l161.length c161), (16, .slice A200 y199.length c200), (99, vi (y199.length : Int)), (100, vi (i201 : Int))] ∧ Le z199 z221 ∧ Le z0 z221 ∧ Le z19 z221 ∧ Ht w0 (frz z221 :: (orow 9 1 (.slice A161 l161.length c161) l161.length d161) :: X) w')) y199.length ⟨0, z199, rfl, Nat.zero_le _, hf, rfl, hm202, hy164_0, hz164, (St.forget hst199 2)⟩ ?_
        rintro _ e' w222 ⟨i201, z221, rfl, hi201, hf, rfl, hz222, hy222_0, hy222_1, hst222⟩
        replace f200 := f200.mono hz222; replace f161 := f161.mono hz222
        refine Run.seq ?_
        refine Run.region ?_
        refine Ops.ex (Ex.lss rfl rfl) rfl rfl rfl ?_
        refine Ops.nil ?_
        refine Run.seq ?_
        refine Run.cond rfl (fun hc => ?_) (fun hc => ?_)
        · have hl201 := lt_of_dec hc
          obtain ⟨a201, nxb201, ha201, hnxb201, hf⟩ := forL_in hf hl201
          unfold go_law11_PlanUnneeded.b2 at hf
          try dsimp only at hf
          refine Run.skip ?_
          refine Run.seq ?_
          refine Run.block ?_
          refine Run.seq ?_
          refine Run.region ?_
          refine Ops.ex (Ex.move rfl) rfl rfl rfl ?_
          refine Ops.ex (Ex.assign rfl) rfl rfl rfl ?_
          refine Ops.nil ?_
          refine Run.seq ?_
          have hm224 := Le.refl z221
          refine Run.drawH [([], fun w => ∃ ζ Y, Le z221 ζ ∧ Ht w0 (frz ζ :: (orow 9 1 (.slice A161 l161.length c161) l161.length d161) :: Y) w)] (by kernel_rfl) hst222 (fun w223 hst223 => ?_)
          have hS0 := (⟨_, _, (Le.refl _), (St.up (St.up hst223 1 rfl) 1 rfl)⟩ : (fun w => ∃ ζ Y, Le z221 ζ ∧ Ht w0 (frz ζ :: (orow 9 1 (.slice A161 l161.length c161) l161.length d161) :: Y) w) _)
          refine Any.takeE 0 rfl rfl rfl rfl (by kernel_rfl) (fun _ _ _ _ _ h => h) ((Ex.move rfl).s) ?_
          refine Any.takeE 1 rfl rfl rfl rfl (by kernel_rfl) (fun _ _ _ _ _ h => h) ((Ex.move rfl).s) ?_
          obtain ⟨g226, p226, o226, cs226, hA226, ho226, hr226, f226⟩ := SlH.elem f200.toH (atI_nat ha201)
          obtain rfl := hr226
          refine Any.takeE 2 rfl rfl rfl rfl (by kernel_rfl) (fun _ _ _ _ _ h => h) ((Ex.ixA hA226 ho226 (atI_nat ha201) rfl rfl rfl Try.underlying48 sz9).s) ?_
          refine Any.take 0 3 rfl rfl rfl rfl rfl (by kernel_rfl) (fun _ _ _ _ _ h => h) (ExS.load rfl Try.underlying9 rfl (fun w hS => by obtain ⟨_, _, hz, hs⟩ := hS; exact (f226.mono (hz.trans hs.le)) 0 _ rfl)) hS0 ?_
          refine Any.takeE 4 rfl rfl rfl rfl (by kernel_rfl) (fun _ _ _ _ _ h => h) ((Ex.move rfl).s) ?_
          refine Any.takeE 5 rfl rfl rfl rfl (by kernel_rfl) (fun _ _ _ _ _ h => h) ((Ex.move rfl).s) ?_
          obtain ⟨y227, hy227, hf⟩ := bnd hf
          obtain ⟨g229, p229, o229, cs229, hA229, ho229, hr229, f229⟩ := own_elem f161 rfl (hst223.get (i := 1) rfl) hy227
          obtain rfl := hr229
          refine Any.takeE 6 rfl rfl rfl rfl (by kernel_rfl) (fun _ _ _ _ _ h => h) ((Ex.ixA hA229 ho229 hy227 rfl rfl rfl Try.underlying48 sz9).s) ?_
          refine Any.take 0 7 rfl rfl rfl rfl rfl (by kernel_rfl) (fun _ _ _ _ _ h => h) (ExS.load rfl Try.underlying9 rfl (fun w hS => by obtain ⟨_, _, hz, hs⟩ := hS; exact (f229 _ (hs.get (i := 1) rfl)) 0 _ rfl)) hS0 ?_
          refine Any.takeE 8 rfl rfl rfl rfl (by kernel_rfl) (fun _ _ _ _ _ h => h) ((Ex.neqT rfl rfl).s) ?_
          refine Any.done (by kernel_rfl) ?_
          refine Run.cond rfl (fun hc => ?_) (fun hc => ?_)
          · replace hf := ifF (neq_T hc) hf
            refine Run.seq ?_
            refine Run.region ?_
            refine Ops.ex (Ex.assign rfl) rfl rfl rfl ?_
            refine Ops.nil ?_
            obtain rfl := Option.some.inj hf
            exact Run.retV [vb false] rfl ⟨rfl, trivial⟩ ⟨z221, rfl, hy222_0, (St.forget hst223 1)⟩
          · replace hf := ifT (neq_F hc) hf
            refine Run.skip ?_
            refine Run.endBlk ?_
            refine Run.region ?_
            refine Ops.ex (Ex.add rfl rfl) rfl rfl rfl ?_
            refine Ops.ex (Ex.move rfl) rfl rfl rfl ?_
            refine Ops.nil ?_
            refine Run.re 100 rfl (congrArg vi (wr_succ' hl201 hc201)) ?_
            exact Run.sub (by exact subB_spec ⟨rfl, rfl, rfl, rfl, trivial⟩) (Run.stop ⟨y199.length - (i201 + 1), by omega, i201 + 1, z221, rfl, by omega, (hnxb201 _).symm.trans hf, rfl, hz222, hy222_0, hy222_1, hst223⟩)
        · replace hf := forL_out hf (nlt_of_dec hc)
          try dsimp only at hf
          refine Run.exit _ rfl ?_
          refine Run.seq ?_
          refine Run.region ?_
          refine Ops.ex (Ex.assign rfl) rfl rfl rfl ?_
          refine Ops.nil ?_
          obtain rfl := Option.some.inj hf
          exact Run.retV [vb true] rfl ⟨rfl, trivial⟩ ⟨z221, rfl, hy222_0, (St.forget hst222 1)⟩
end Go.Proofs.Ytbinmebiknjncaa.P3
