/- Plan: kind. -/
import Derived.Test.YtbinmebiknjncaaProg
import Derived.Test.YtbinmebiknjncaaGnF
namespace Go.Proofs.Ytbinmebiknjncaa.P1
open Go Go.RowKit Go.Proofs.Ytbinmebiknjncaa.Sx
set_option linter.unusedVariables false
set_option linter.unusedSimpArgs false
structure apiRef where
  Name : Str
  Kind : Int
  From : Int
  To : Int
  deriving DecidableEq
def tapiRef : Ty apiRef where
  sz := 4
  R := fun ζ cs x => cs = [vs x.Name, vi x.Kind, vi x.From, vi x.To]
  len := by rintro ζ cs x rfl; rfl
  one := by
    rintro ζ cs x rfl u hu
    simp only [List.mem_cons, List.not_mem_nil, or_false] at hu
    rcases hu with rfl | rfl | rfl | rfl <;> rfl
  mono := by rintro ζ ζ' cs x rfl hl; exact rfl
structure editsSet where
  Refs : List apiRef
  Floor : Int
  deriving DecidableEq
def teditsSet : Ty editsSet where
  sz := 2
  R := fun ζ cs x => ∃ A0 c0, cs = [.slice A0 x.Refs.length c0, vi x.Floor] ∧ Sl tapiRef ζ A0 c0 x.Refs
  len := by rintro ζ cs x ⟨A0, c0, rfl, f0⟩; rfl
  one := by
    rintro ζ cs x ⟨A0, c0, rfl, f0⟩ u hu
    simp only [List.mem_cons, List.not_mem_nil, or_false] at hu
    rcases hu with rfl | rfl <;> rfl
  mono := by rintro ζ ζ' cs x ⟨A0, c0, rfl, f0⟩ hl; exact ⟨A0, c0, rfl, f0.mono hl⟩
theorem sz25 : (Try.prog.info? 25).map (·.size) = some 1 := by kernel_rfl
theorem sz37 : (Try.prog.info? 37).map (·.size) = some 4 := by kernel_rfl
theorem zr37 : (Try.prog.info? 37).map (·.zero) = some (some (.agg #[.string ⟨#[]⟩, .int .i64 0, .int .i64 0, .int .i64 0])) := by kernel_rfl
theorem sz35 : (Try.prog.info? 35).map (·.size) = some 1 := by kernel_rfl
theorem inf37 : (Try.prog.info? 37).map (fun i => (i.zero, i.size, i.bytes)) = some (some (.agg #[.string ⟨#[]⟩, .int .i64 0, .int .i64 0, .int .i64 0]), 4, 40) := by kernel_rfl
theorem sz3 : (Try.prog.info? 3).map (·.size) = some 1 := by kernel_rfl
def go_plan_kind_c1 (p0 : apiRef) (p1 : apiRef) : Option Int :=
  if p0.From = p1.From then (some (wr (p0.To - p1.To))) else (some (wr (p0.From - p1.From)))
set_option maxRecDepth 100000 in
set_option maxHeartbeats 4000000 in
theorem go_plan_kind_c1.walk {w0 w : World} {X : List Res} {z0 : Zp} {p0 : apiRef} {p1 : apiRef} {r : Int} (hst : Ht w0 (frz z0 :: X) w) (hf : go_plan_kind_c1 p0 p1 = some r) :
    Calls Try.prog 28 #[.agg #[vs p0.Name, vi p0.Kind, vi p0.From, vi p0.To], .agg #[vs p1.Name, vi p1.Kind, vi p1.From, vi p1.To]] w fun e w' => ∃ (z' : Zp), e = .returned (vi r) ∧ Le z0 z' ∧ Ht w0 (frz z' :: X) w' := by
  refine calls_np Try.func28 rfl rfl ?_
  have hle0 := Le.refl z0
  unfold go_plan_kind_c1 at hf
  refine Run.seq ?_
  refine Run.region ?_
  refine Ops.boxF [vs p0.Name, vi p0.Kind, vi p0.From, vi p0.To] hst rfl rfl rfl (fun g9 w9 hst9 => ?_)
  refine Ops.boxF [vs p1.Name, vi p1.Kind, vi p1.From, vi p1.To] hst9 rfl rfl rfl (fun g10 w10 hst10 => ?_)
  refine Ops.ex (Ex.assign rfl) rfl rfl rfl ?_
  refine Ops.nil ?_
  refine Run.seq ?_
  refine Run.seq ?_
  refine Run.region ?_
  refine Ops.ex (Ex.fieldAddr rfl Try.underlying37 rfl sz3) rfl rfl rfl ?_
  refine Ops.load rfl Try.underlying3 rfl (hst10.cell (i := 2) rfl rfl) rfl ?_
  refine Ops.ex (Ex.fieldAddr rfl Try.underlying37 rfl sz3) rfl rfl rfl ?_
  refine Ops.load rfl Try.underlying3 rfl (hst10.cell (i := 1) rfl rfl) rfl ?_
  refine Ops.ex (Ex.neqI rfl rfl) rfl rfl rfl ?_
  refine Ops.nil ?_
  refine Run.cond rfl (fun hc => ?_) (fun hc => ?_)
  · replace hf := ifF (neq_T hc) hf
    refine Run.seq ?_
    refine Run.region ?_
    refine Ops.ex (Ex.fieldAddr rfl Try.underlying37 rfl sz3) rfl rfl rfl ?_
    refine Ops.load rfl Try.underlying3 rfl (hst10.cell (i := 2) rfl rfl) rfl ?_
    refine Ops.ex (Ex.fieldAddr rfl Try.underlying37 rfl sz3) rfl rfl rfl ?_
    refine Ops.load rfl Try.underlying3 rfl (hst10.cell (i := 1) rfl rfl) rfl ?_
    refine Ops.ex (Ex.sub rfl rfl) rfl rfl rfl ?_
    refine Ops.ex (Ex.assign rfl) rfl rfl rfl ?_
    refine Ops.nil ?_
    obtain rfl := Option.some.inj hf
    exact Run.retV [vi (wr (p0.From - p1.From))] rfl ⟨rfl, trivial⟩ ⟨z0, rfl, hle0, (St.forget (St.forget hst10 2) 1)⟩
  · replace hf := ifT (neq_F hc) hf
    refine Run.skip ?_
    refine Run.seq ?_
    refine Run.region ?_
    refine Ops.ex (Ex.fieldAddr rfl Try.underlying37 rfl sz3) rfl rfl rfl ?_
    refine Ops.load rfl Try.underlying3 rfl (hst10.cell (i := 2) rfl rfl) rfl ?_
    refine Ops.ex (Ex.fieldAddr rfl Try.underlying37 rfl sz3) rfl rfl rfl ?_
    refine Ops.load rfl Try.underlying3 rfl (hst10.cell (i := 1) rfl rfl) rfl ?_
    refine Ops.ex (Ex.sub rfl rfl) rfl rfl rfl ?_
    refine Ops.ex (Ex.assign rfl) rfl rfl rfl ?_
    refine Ops.nil ?_
    obtain rfl := Option.some.inj hf
    exact Run.retV [vi (wr (p0.To - p1.To))] rfl ⟨rfl, trivial⟩ ⟨z0, rfl, hle0, (St.forget (St.forget hst10 2) 1)⟩
def go_slices_insertionSortCmpFunc_api_Ref_plan_kind_c1.b2 (p1 : Int) (x283 : Int) (nxb4 : (List apiRef × Int) → Option (List apiRef)) : (List apiRef × Int) → (List apiRef × Int → Option (List apiRef)) → Option (List apiRef) :=
  fun (l376, x377) nxb285 => if p1 < x377 then ((atI l376 x377).bind fun y381 => (atI l376 (wr (x377 - 1))).bind fun y387 => (go_plan_kind_c1 y381 y387).bind fun y393 => if y393 < 0 then ((putI l376 x377 y387).bind fun l412 => (atI l412 (wr (x377 - 1))).bind fun y413 => (putI l412 (wr (x377 - 1)) y381).bind fun l419 => nxb285 (l419, wr (x377 - 1))) else (nxb4 (l376, wr (x283 + 1)))) else (nxb4 (l376, wr (x283 + 1)))
def go_slices_insertionSortCmpFunc_api_Ref_plan_kind_c1.b1 (p1 : Int) (p2 : Int) : (List apiRef × Int) → (List apiRef × Int → Option (List apiRef)) → Option (List apiRef) :=
  fun (l282, x283) nxb4 => if x283 < p2 then (loopF (go_slices_insertionSortCmpFunc_api_Ref_plan_kind_c1.b2 p1 x283 nxb4) fuel (l282, x283)) else (some l282)
def go_slices_insertionSortCmpFunc_api_Ref_plan_kind_c1 (p0 : List apiRef) (p1 : Int) (p2 : Int) : Option (List apiRef) :=
  loopF (go_slices_insertionSortCmpFunc_api_Ref_plan_kind_c1.b1 p1 p2) fuel (p0, wr (p1 + 1))
set_option maxRecDepth 100000 in
set_option maxHeartbeats 4000000 in
theorem go_slices_insertionSortCmpFunc_api_Ref_plan_kind_c1.walk {w0 w : World} {X : List Res} {z0 : Zp} {p0 : List apiRef} {A1 : Option Addr} {c1 : Nat} {n1 : Nat} {d1 : List Value} {p1 : Int} {p2 : Int} {r : List apiRef} (hst : Ht w0 (frz z0 :: (orow 37 4 (.slice A1 n1 c1) n1 d1) :: X) w) (f1 : Cs tapiRef z0 d1 p0) (hn1 : p0.length = n1) (hf : go_slices_insertionSortCmpFunc_api_Ref_plan_kind_c1 p0 p1 p2 = some r) :
    Calls Try.prog 35 #[.slice A1 n1 c1, vi p1, vi p2, .func (.func 28) #[] #[]] w fun e w' => ∃ (z' : Zp) (d9001 : List Value), e = .returned (.tuple #[]) ∧ Le z0 z' ∧ Cs tapiRef z' d9001 r ∧ r.length = n1 ∧ Ht w0 (frz z' :: (orow 37 4 (.slice A1 n1 c1) n1 d9001) :: X) w' := by
  refine calls_np Try.func35 rfl rfl ?_
  have hle0 := Le.refl z0
  unfold go_slices_insertionSortCmpFunc_api_Ref_plan_kind_c1 at hf
  refine Run.seq ?_
  refine Run.region ?_
  refine Ops.ex (Ex.move rfl) rfl rfl rfl ?_
  refine Ops.ex (Ex.add rfl rfl) rfl rfl rfl ?_
  refine Ops.ex (Ex.assign rfl) rfl rfl rfl ?_
  refine Ops.nil ?_
  refine Run.block ?_
  refine Run.sub (e' := [(0, .slice A1 n1 c1), (1, vi p1), (2, vi p2), (3, .func (.func 28) #[] #[]), (8, vi (wr (p1 + 1)))]) (subB_spec ⟨rfl, rfl, rfl, rfl, rfl, trivial⟩) ?_
  refine Run.loop (fun mb4 => (fun e' w' => ∃ (l282 : List apiRef) (x283 : Int) (d282 : List Value) (z281 : Zp), loopF (go_slices_insertionSortCmpFunc_api_Ref_plan_kind_c1.b1 p1 p2) mb4 (l282, x283) = some r ∧ e' = [(0, .slice A1 n1 c1), (1, vi p1), (2, vi p2), (3, .func (.func 28) #[] #[]), (8, vi x283)] ∧ Le z0 z281 ∧ Cs tapiRef z281 d282 l282 ∧ l282.length = n1 ∧ Ht w0 (frz z281 :: (orow 37 4 (.slice A1 n1 c1) n1 d282) :: X) w')) fuel ⟨p0, wr (p1 + 1), d1, z0, hf, rfl, hle0, f1, hn1, hst⟩ ?_
  rintro mb4 e' w284 ⟨l282, x283, d282, z281, hf, rfl, hz284, f282, hn282, hst284⟩
  obtain ⟨mb4', nxb4, rfl, hnxb4, hf⟩ := loopF_in hf
  unfold go_slices_insertionSortCmpFunc_api_Ref_plan_kind_c1.b1 at hf
  try dsimp only at hf
  refine Run.seq ?_
  refine Run.seq ?_
  refine Run.region ?_
  refine Ops.ex (Ex.move rfl) rfl rfl rfl ?_
  refine Ops.ex (Ex.move rfl) rfl rfl rfl ?_
  refine Ops.ex (Ex.lss rfl rfl) rfl rfl rfl ?_
  refine Ops.nil ?_
  refine Run.cond rfl (fun hc => ?_) (fun hc => ?_)
  · replace hf := ifT (dec_T hc) hf
    refine Run.skip ?_
    refine Run.seq ?_
    refine Run.block ?_
    refine Run.seq ?_
    refine Run.region ?_
    refine Ops.ex (Ex.move rfl) rfl rfl rfl ?_
    refine Ops.ex (Ex.assign rfl) rfl rfl rfl ?_
    refine Ops.nil ?_
    refine Run.block ?_
    have hm286 := Le.refl z281
    refine Run.sub (e' := [(0, .slice A1 n1 c1), (1, vi p1), (2, vi p2), (3, .func (.func 28) #[] #[]), (8, vi x283), (9, vi x283)]) (subB_spec ⟨rfl, rfl, rfl, rfl, rfl, rfl, trivial⟩) ?_
    refine Run.loop (fun mb285 => (fun e' w' => ∃ (l376 : List apiRef) (x377 : Int) (d376 : List Value) (z375 : Zp), loopF (go_slices_insertionSortCmpFunc_api_Ref_plan_kind_c1.b2 p1 x283 nxb4) mb285 (l376, x377) = some r ∧ e' = [(0, .slice A1 n1 c1), (1, vi p1), (2, vi p2), (3, .func (.func 28) #[] #[]), (8, vi x283), (9, vi x377)] ∧ Le z281 z375 ∧ Le z0 z375 ∧ Cs tapiRef z375 d376 l376 ∧ l376.length = n1 ∧ Ht w0 (frz z375 :: (orow 37 4 (.slice A1 n1 c1) n1 d376) :: X) w')) fuel ⟨l282, x283, d282, z281, hf, rfl, hm286, hz284, f282, hn282, hst284⟩ ?_
    rintro mb285 e' w378 ⟨l376, x377, d376, z375, hf, rfl, hz378, hy378_0, f376, hn376, hst378⟩
    obtain ⟨mb285', nxb285, rfl, hnxb285, hf⟩ := loopF_in hf
    unfold go_slices_insertionSortCmpFunc_api_Ref_plan_kind_c1.b2 at hf
    try dsimp only at hf
    refine Run.seq ?_
    refine Run.seq ?_
    have hm380 := Le.refl z375
    refine Run.drawH [([], fun w => ∃ ζ Y, Le z375 ζ ∧ Ht w0 (frz ζ :: (orow 37 4 (.slice A1 n1 c1) n1 d376) :: Y) w)] (by kernel_rfl) hst378 (fun w379 hst379 => ?_)
    have hS0 := (⟨_, _, (Le.refl _), (St.up (St.up hst379 1 rfl) 1 rfl)⟩ : (fun w => ∃ ζ Y, Le z375 ζ ∧ Ht w0 (frz ζ :: (orow 37 4 (.slice A1 n1 c1) n1 d376) :: Y) w) _)
    refine Any.takeE 0 rfl rfl rfl rfl (by kernel_rfl) (fun _ _ _ _ _ h => h) ((Ex.move rfl).s) ?_
    refine Any.takeE 1 rfl rfl rfl rfl (by kernel_rfl) (fun _ _ _ _ _ h => h) ((Ex.move rfl).s) ?_
    refine Any.takeE 2 rfl rfl rfl rfl (by kernel_rfl) (fun _ _ _ _ _ h => h) ((Ex.gtr rfl rfl).s) ?_
    refine Any.takeE 3 rfl rfl rfl rfl (by kernel_rfl) (fun _ _ _ _ _ h => h) ((Ex.move rfl).s) ?_
    refine Any.case 21 rfl (fun hc => ?_) (fun hc => ?_)
    · replace hf := ifT (dec_T hc) hf
      refine Any.takeE 4 rfl rfl rfl rfl (by kernel_rfl) (fun _ _ _ _ _ h => h) (ExS.g ((Ex.move rfl).s)) ?_
      refine Any.takeE 5 rfl rfl rfl rfl (by kernel_rfl) (fun _ _ _ _ _ h => h) (ExS.g ((Ex.move rfl).s)) ?_
      refine Any.takeE 6 rfl rfl rfl rfl (by kernel_rfl) (fun _ _ _ _ _ h => h) (ExS.g ((Ex.move rfl).s)) ?_
      obtain ⟨y381, hy381, hf⟩ := bnd hf
      obtain ⟨g386, p386, o386, cs386, hA386, ho386, hr386, f386⟩ := own_elem f376 hn376 (hst379.get (i := 1) rfl) hy381
      obtain rfl := hr386
      refine Any.takeE 7 rfl rfl rfl rfl (by kernel_rfl) (fun _ _ _ _ _ h => h) (ExS.g ((Ex.ixA hA386 ho386 hy381 hn376 rfl rfl Try.underlying25 sz37).s)) ?_
      refine Any.take 0 8 rfl rfl rfl rfl rfl (by kernel_rfl) (fun _ _ _ _ _ h => h) (ExS.g (ExS.loadAgg [vs y381.Name, vi y381.Kind, vi y381.From, vi y381.To] rfl Try.underlying37 rfl sz37 rfl (fun w hS => by obtain ⟨_, _, hz, hs⟩ := hS; exact cells_of_zc rfl (f386 _ (hs.get (i := 1) rfl))))) hS0 ?_
      refine Any.takeE 9 rfl rfl rfl rfl (by kernel_rfl) (fun _ _ _ _ _ h => h) (ExS.g ((Ex.move rfl).s)) ?_
      refine Any.takeE 10 rfl rfl rfl rfl (by kernel_rfl) (fun _ _ _ _ _ h => h) (ExS.g ((Ex.move rfl).s)) ?_
      refine Any.takeE 11 rfl rfl rfl rfl (by kernel_rfl) (fun _ _ _ _ _ h => h) (ExS.g ((Ex.sub rfl rfl).s)) ?_
      obtain ⟨y387, hy387, hf⟩ := bnd hf
      obtain ⟨g392, p392, o392, cs392, hA392, ho392, hr392, f392⟩ := own_elem f376 hn376 (hst379.get (i := 1) rfl) hy387
      obtain rfl := hr392
      refine Any.takeE 12 rfl rfl rfl rfl (by kernel_rfl) (fun _ _ _ _ _ h => h) (ExS.g ((Ex.ixA hA392 ho392 hy387 hn376 rfl rfl Try.underlying25 sz37).s)) ?_
      refine Any.take 0 13 rfl rfl rfl rfl rfl (by kernel_rfl) (fun _ _ _ _ _ h => h) (ExS.g (ExS.loadAgg [vs y387.Name, vi y387.Kind, vi y387.From, vi y387.To] rfl Try.underlying37 rfl sz37 rfl (fun w hS => by obtain ⟨_, _, hz, hs⟩ := hS; exact cells_of_zc rfl (f392 _ (hs.get (i := 1) rfl))))) hS0 ?_
      obtain ⟨y393, hy393, hf⟩ := bnd hf
      refine Any.one 14 (by kernel_rfl) rfl rfl (One.g <| One.of_ops rfl ?_)
      refine Ops.call rfl rfl Try.func28 (by kernel_rfl) (by kernel_rfl) rfl (go_plan_kind_c1.walk (p0 := y381) (p1 := y387) (hst := hst379) (hf := hy393)) ?_
      rintro _ w393 ⟨z393, rfl, hz393, hst393⟩
      refine ⟨_, rfl, Ops.stop ?_⟩
      replace f376 := f376.mono hz393
      replace hy378_0 := hy378_0.trans hz393
      replace hz378 := hz378.trans hz393
      replace hm380 := hm380.trans hz393
      have hS0 := (⟨_, _, hm380, (St.up (St.up hst393 1 rfl) 1 rfl)⟩ : (fun w => ∃ ζ Y, Le z375 ζ ∧ Ht w0 (frz ζ :: (orow 37 4 (.slice A1 n1 c1) n1 d376) :: Y) w) _)
      refine ⟨⟨.inr (fun _ => hS0), trivial⟩, ?_⟩
      refine Any.takeE 15 rfl rfl rfl rfl (by kernel_rfl) (fun _ _ _ _ _ h => h) (ExS.g ((Ex.lss rfl rfl).s)) ?_
      refine Any.takeE 16 rfl rfl rfl rfl (by kernel_rfl) (fun _ _ _ _ _ h => h) ((Ex.pickT rfl rfl).s) ?_
      refine Any.done (by kernel_rfl) ?_
      refine Run.cond rfl (fun hc => ?_) (fun hc => ?_)
      · replace hf := ifT (dec_T hc) hf
        refine Run.skip ?_
        refine Run.seq ?_
        refine Run.block ?_
        have hm396 := Le.refl z393
        refine Run.drawH [([], fun w => ∃ ζ Y, Le z393 ζ ∧ Ht w0 (frz ζ :: Y) w), ([15, 17], fun w => ∃ ζ Y, Le z393 ζ ∧ Ht w0 (frz ζ :: (orow 37 4 (.slice A1 n1 c1) n1 d376) :: Y) w)] (by kernel_rfl) hst393 (fun w395 hst395 => ?_)
        have hS0 := (⟨_, _, (Le.refl _), hst395⟩ : (fun w => ∃ ζ Y, Le z393 ζ ∧ Ht w0 (frz ζ :: Y) w) _)
        have hS1 := (⟨_, _, (Le.refl _), (St.up (St.up hst395 1 rfl) 1 rfl)⟩ : (fun w => ∃ ζ Y, Le z393 ζ ∧ Ht w0 (frz ζ :: (orow 37 4 (.slice A1 n1 c1) n1 d376) :: Y) w) _)
        refine Any.takeE 0 rfl rfl rfl rfl (by kernel_rfl) (fun _ _ _ _ _ h => h) ((Ex.move rfl).s) ?_
        refine Any.takeE 1 rfl rfl rfl rfl (by kernel_rfl) (fun _ _ _ _ _ h => h) ((Ex.move rfl).s) ?_
        refine Any.takeE 2 rfl rfl rfl rfl (by kernel_rfl) (fun _ _ _ _ _ h => h) ((Ex.move rfl).s) ?_
        refine Any.takeE 3 rfl rfl rfl rfl (by kernel_rfl) (fun _ _ _ _ _ h => h) ((Ex.move rfl).s) ?_
        refine Any.takeE 4 rfl rfl rfl rfl (by kernel_rfl) (fun _ _ _ _ _ h => h) ((Ex.sub rfl rfl).s) ?_
        refine Any.takeE 5 rfl rfl rfl rfl (by kernel_rfl) (fun _ _ _ _ _ h => h) ((Ex.move rfl).s) ?_
        refine Any.takeE 6 rfl rfl rfl rfl (by kernel_rfl) (fun _ _ _ _ _ h => h) ((Ex.move rfl).s) ?_
        refine Any.takeE 7 rfl rfl rfl rfl (by kernel_rfl) (fun _ _ _ _ _ h => h) ((Ex.sub rfl rfl).s) ?_
        obtain ⟨g401, p401, o401, cs401, hA401, ho401, hr401, f401⟩ := own_elem f376 hn376 (hst395.get (i := 1) rfl) hy387
        obtain rfl := hr401
        refine Any.takeE 8 rfl rfl rfl rfl (by kernel_rfl) (fun _ _ _ _ _ h => h) ((Ex.ixA hA401 ho401 hy387 hn376 rfl rfl Try.underlying25 sz37).s) ?_
        refine Any.take 1 9 rfl rfl rfl rfl rfl (by kernel_rfl) (fun _ _ _ _ _ h => h) (ExS.loadAgg [vs y387.Name, vi y387.Kind, vi y387.From, vi y387.To] rfl Try.underlying37 rfl sz37 rfl (fun w hS => by obtain ⟨_, _, hz, hs⟩ := hS; exact cells_of_zc rfl (f401 _ (hs.get (i := 1) rfl)))) hS1 ?_
        refine Any.takeE 10 rfl rfl rfl rfl (by kernel_rfl) (fun _ _ _ _ _ h => h) ((Ex.move rfl).s) ?_
        refine Any.takeE 11 rfl rfl rfl rfl (by kernel_rfl) (fun _ _ _ _ _ h => h) ((Ex.move rfl).s) ?_
        obtain ⟨g406, p406, o406, cs406, hA406, ho406, hr406, f406⟩ := own_elem f376 hn376 (hst395.get (i := 1) rfl) hy381
        obtain rfl := hr406
        refine Any.takeE 12 rfl rfl rfl rfl (by kernel_rfl) (fun _ _ _ _ _ h => h) ((Ex.ixA hA406 ho406 hy381 hn376 rfl rfl Try.underlying25 sz37).s) ?_
        refine Any.take 1 13 rfl rfl rfl rfl rfl (by kernel_rfl) (fun _ _ _ _ _ h => h) (ExS.loadAgg [vs y381.Name, vi y381.Kind, vi y381.From, vi y381.To] rfl Try.underlying37 rfl sz37 rfl (fun w hS => by obtain ⟨_, _, hz, hs⟩ := hS; exact cells_of_zc rfl (f406 _ (hs.get (i := 1) rfl)))) hS1 ?_
        obtain ⟨g411, p411, o411, cs411, hA411, ho411, hr411, f411⟩ := own_elem f376 hn376 (hst395.get (i := 1) rfl) hy381
        obtain rfl := hr411
        refine Any.takeE 14 rfl rfl rfl rfl (by kernel_rfl) (fun _ _ _ _ _ h => h) ((Ex.ixA hA411 ho411 hy381 hn376 rfl rfl Try.underlying25 sz37).s) ?_
        obtain ⟨l412, hy412, hf⟩ := bnd hf
        refine Any.one 15 (by kernel_rfl) rfl rfl (One.of_ops rfl ?_)
        refine Ops.storeN (off := 0) (cs := [vs y381.Name, vi y381.Kind, vi y381.From, vi y381.To]) (cs' := [vs y387.Name, vi y387.Kind, vi y387.From, vi y387.To]) 1 hst395 rfl f376 hn376 hA411 ho411 hy412 f411 rfl rfl rfl rfl rfl rfl sz37 rfl (by simp [Value.oneCell']) (by simp) (fun d412 w412 f412 hn412 hst412 => Ops.stop ?_)
        have hS0 := (⟨_, _, (Le.refl _), hst412⟩ : (fun w => ∃ ζ Y, Le z393 ζ ∧ Ht w0 (frz ζ :: Y) w) _)
        refine ⟨⟨.inr (fun _ => hS0), .inl (by decide), trivial⟩, ?_⟩
        obtain ⟨y413, hy413, hf⟩ := bnd hf
        obtain ⟨g418, p418, o418, cs418, hA418, ho418, hr418, f418⟩ := own_elem f412 hn412 (hst412.get (i := 1) rfl) hy413
        obtain rfl := hr418
        refine Any.takeE 16 rfl rfl rfl rfl (by kernel_rfl) (fun _ _ _ _ _ h => h) ((Ex.ixA hA418 ho418 hy413 hn412 rfl rfl Try.underlying25 sz37).s) ?_
        obtain ⟨l419, hy419, hf⟩ := bnd hf
        refine Any.one 17 (by kernel_rfl) rfl rfl (One.of_ops rfl ?_)
        refine Ops.storeN (off := 0) (cs := [vs y413.Name, vi y413.Kind, vi y413.From, vi y413.To]) (cs' := [vs y381.Name, vi y381.Kind, vi y381.From, vi y381.To]) 1 hst412 rfl f412 hn412 hA418 ho418 hy419 f418 rfl rfl rfl rfl rfl rfl sz37 rfl (by simp [Value.oneCell']) (by simp) (fun d419 w419 f419 hn419 hst419 => Ops.stop ?_)
        have hS0 := (⟨_, _, (Le.refl _), hst419⟩ : (fun w => ∃ ζ Y, Le z393 ζ ∧ Ht w0 (frz ζ :: Y) w) _)
        refine ⟨⟨.inr (fun _ => hS0), .inl (by decide), trivial⟩, ?_⟩
        refine Any.done (by kernel_rfl) ?_
        refine Run.endBlk ?_
        refine Run.region ?_
        refine Ops.ex (Ex.move rfl) rfl rfl rfl ?_
        refine Ops.ex (Ex.sub rfl rfl) rfl rfl rfl ?_
        refine Ops.ex (Ex.assign rfl) rfl rfl rfl ?_
        refine Ops.nil ?_
        exact Run.sub (by exact subB_spec ⟨rfl, rfl, rfl, rfl, rfl, rfl, trivial⟩) (Run.stop ⟨mb285', Nat.lt_succ_self _, l419, wr (x377 - 1), d419, z393, (hnxb285 _).symm.trans hf, rfl, hz378, hy378_0, f419, hn419, hst419⟩)
      · replace hf := ifF (dec_F hc) hf
        refine Run.exit _ rfl ?_
        refine Run.endBlk ?_
        refine Run.region ?_
        refine Ops.ex (Ex.move rfl) rfl rfl rfl ?_
        refine Ops.ex (Ex.add rfl rfl) rfl rfl rfl ?_
        refine Ops.ex (Ex.assign rfl) rfl rfl rfl ?_
        refine Ops.nil ?_
        exact Run.sub (by exact subB_spec ⟨rfl, rfl, rfl, rfl, rfl, trivial⟩) (Run.stop ⟨mb4', Nat.lt_succ_self _, l376, wr (x283 + 1), d376, z393, (hnxb4 _).symm.trans hf, rfl, hy378_0, f376, hn376, hst393⟩)
    · replace hf := ifF (dec_F hc) hf
      refine Any.pass 4 rfl rfl rfl rfl (by kernel_rfl) (fun _ _ _ _ _ h => h) ?_
      refine Any.pass 5 rfl rfl rfl rfl (by kernel_rfl) (fun _ _ _ _ _ h => h) ?_
      refine Any.pass 6 rfl rfl rfl rfl (by kernel_rfl) (fun _ _ _ _ _ h => h) ?_
      refine Any.pass 7 rfl rfl rfl rfl (by kernel_rfl) (fun _ _ _ _ _ h => h) ?_
      refine Any.pass 8 rfl rfl rfl rfl (by kernel_rfl) (fun _ _ _ _ _ h => h) ?_
      refine Any.pass 9 rfl rfl rfl rfl (by kernel_rfl) (fun _ _ _ _ _ h => h) ?_
      refine Any.pass 10 rfl rfl rfl rfl (by kernel_rfl) (fun _ _ _ _ _ h => h) ?_
      refine Any.pass 11 rfl rfl rfl rfl (by kernel_rfl) (fun _ _ _ _ _ h => h) ?_
      refine Any.pass 12 rfl rfl rfl rfl (by kernel_rfl) (fun _ _ _ _ _ h => h) ?_
      refine Any.pass 13 rfl rfl rfl rfl (by kernel_rfl) (fun _ _ _ _ _ h => h) ?_
      refine Any.pass 14 rfl rfl rfl rfl (by kernel_rfl) (fun _ _ _ _ _ h => h) ?_
      refine Any.pass 15 rfl rfl rfl rfl (by kernel_rfl) (fun _ _ _ _ _ h => h) ?_
      refine Any.takeE 16 rfl rfl rfl rfl (by kernel_rfl) (fun _ _ _ _ _ h => h) ((Ex.pickF rfl rfl).s) ?_
      refine Any.done (by kernel_rfl) ?_
      refine Run.condF rfl rfl ?_
      refine Run.exit _ rfl ?_
      refine Run.endBlk ?_
      refine Run.region ?_
      refine Ops.ex (Ex.move rfl) rfl rfl rfl ?_
      refine Ops.ex (Ex.add rfl rfl) rfl rfl rfl ?_
      refine Ops.ex (Ex.assign rfl) rfl rfl rfl ?_
      refine Ops.nil ?_
      exact Run.sub (by exact subB_spec ⟨rfl, rfl, rfl, rfl, rfl, trivial⟩) (Run.stop ⟨mb4', Nat.lt_succ_self _, l376, wr (x283 + 1), d376, z375, (hnxb4 _).symm.trans hf, rfl, hy378_0, f376, hn376, hst379⟩)
  · replace hf := ifF (dec_F hc) hf
    refine Run.exit _ rfl ?_
    obtain rfl := Option.some.inj hf
    exact Run.doneV [] rfl trivial ⟨z281, d282, rfl, hz284, f282, hn282, hst284⟩
def go_slices_stableCmpFunc_api_Ref_plan_kind_c1.b3 (p1 : Int) (x120 : Int) (nxb96 : Int → Option (List apiRef)) : Unit → (Unit → Option (List apiRef)) → Option (List apiRef) :=
  fun _ nxb122 => if wr (2 * x120) ≤ p1 then (none) else (if wr (0 + x120) < p1 then (none) else (nxb96 (wr (x120 * 2))))
def go_slices_stableCmpFunc_api_Ref_plan_kind_c1.b2 (p1 : Int) (y94 : List apiRef) : Int → (Int → Option (List apiRef)) → Option (List apiRef) :=
  fun x120 nxb96 => if x120 < p1 then (loopF (go_slices_stableCmpFunc_api_Ref_plan_kind_c1.b3 p1 x120 nxb96) fuel ()) else (some y94)
def go_slices_stableCmpFunc_api_Ref_plan_kind_c1.b1 (p1 : Int) : (List apiRef × Int × Int) → (List apiRef × Int × Int → Option (List apiRef)) → Option (List apiRef) :=
  fun (l88, x89, x90) nxb3 => if x90 ≤ p1 then ((go_slices_insertionSortCmpFunc_api_Ref_plan_kind_c1 l88 x89 x90).bind fun y92 => nxb3 (y92, x90, wr (x90 + 20))) else ((go_slices_insertionSortCmpFunc_api_Ref_plan_kind_c1 l88 x89 p1).bind fun y94 => loopF (go_slices_stableCmpFunc_api_Ref_plan_kind_c1.b2 p1 y94) fuel 20)
def go_slices_stableCmpFunc_api_Ref_plan_kind_c1 (p0 : List apiRef) (p1 : Int) : Option (List apiRef) :=
  loopF (go_slices_stableCmpFunc_api_Ref_plan_kind_c1.b1 p1) fuel (p0, 0, 20)
set_option maxRecDepth 100000 in
set_option maxHeartbeats 4000000 in
theorem go_slices_stableCmpFunc_api_Ref_plan_kind_c1.walk {w0 w : World} {X : List Res} {z0 : Zp} {p0 : List apiRef} {A1 : Option Addr} {c1 : Nat} {n1 : Nat} {d1 : List Value} {p1 : Int} {r : List apiRef} (hst : Ht w0 (frz z0 :: (orow 37 4 (.slice A1 n1 c1) n1 d1) :: X) w) (f1 : Cs tapiRef z0 d1 p0) (hn1 : p0.length = n1) (hf : go_slices_stableCmpFunc_api_Ref_plan_kind_c1 p0 p1 = some r) :
    Calls Try.prog 34 #[.slice A1 n1 c1, vi p1, .func (.func 28) #[] #[]] w fun e w' => ∃ (z' : Zp) (d9001 : List Value), e = .returned (.tuple #[]) ∧ Le z0 z' ∧ Cs tapiRef z' d9001 r ∧ r.length = n1 ∧ Ht w0 (frz z' :: (orow 37 4 (.slice A1 n1 c1) n1 d9001) :: X) w' := by
  refine calls_np Try.func34 rfl rfl ?_
  have hle0 := Le.refl z0
  unfold go_slices_stableCmpFunc_api_Ref_plan_kind_c1 at hf
  refine Run.seq ?_
  refine Run.region ?_
  refine Ops.ex (Ex.assign rfl) rfl rfl rfl ?_
  refine Ops.nil ?_
  refine Run.seq ?_
  refine Run.region ?_
  refine Ops.ex (Ex.move rfl) rfl rfl rfl ?_
  refine Ops.ex (Ex.assign rfl) rfl rfl rfl ?_
  refine Ops.ex (Ex.assign rfl) rfl rfl rfl ?_
  refine Ops.nil ?_
  refine Run.seq ?_
  refine Run.block ?_
  refine Run.sub (e' := [(0, .slice A1 n1 c1), (1, vi p1), (2, .func (.func 28) #[] #[]), (6, vi 20), (7, vi 0), (8, vi 20)]) (subB_spec ⟨rfl, rfl, rfl, rfl, rfl, rfl, trivial⟩) ?_
  refine Run.loop (fun mb3 => (fun e' w' => ∃ (l88 : List apiRef) (x89 : Int) (x90 : Int) (d88 : List Value) (z87 : Zp), loopF (go_slices_stableCmpFunc_api_Ref_plan_kind_c1.b1 p1) mb3 (l88, x89, x90) = some r ∧ e' = [(0, .slice A1 n1 c1), (1, vi p1), (2, .func (.func 28) #[] #[]), (6, vi 20), (7, vi x89), (8, vi x90)] ∧ Le z0 z87 ∧ Cs tapiRef z87 d88 l88 ∧ l88.length = n1 ∧ Ht w0 (frz z87 :: (orow 37 4 (.slice A1 n1 c1) n1 d88) :: X) w')) fuel ⟨p0, 0, 20, d1, z0, hf, rfl, hle0, f1, hn1, hst⟩ ?_
  rintro mb3 e' w91 ⟨l88, x89, x90, d88, z87, hf, rfl, hz91, f88, hn88, hst91⟩
  obtain ⟨mb3', nxb3, rfl, hnxb3, hf⟩ := loopF_in hf
  unfold go_slices_stableCmpFunc_api_Ref_plan_kind_c1.b1 at hf
  try dsimp only at hf
  refine Run.seq ?_
  refine Run.seq ?_
  refine Run.region ?_
  refine Ops.ex (Ex.move rfl) rfl rfl rfl ?_
  refine Ops.ex (Ex.move rfl) rfl rfl rfl ?_
  refine Ops.ex (Ex.leq rfl rfl) rfl rfl rfl ?_
  refine Ops.nil ?_
  refine Run.cond rfl (fun hc => ?_) (fun hc => ?_)
  · replace hf := ifT (dec_T hc) hf
    refine Run.skip ?_
    refine Run.block ?_
    refine Run.seq ?_
    refine Run.region ?_
    refine Ops.ex (Ex.move rfl) rfl rfl rfl ?_
    refine Ops.ex (Ex.move rfl) rfl rfl rfl ?_
    refine Ops.ex (Ex.move rfl) rfl rfl rfl ?_
    refine Ops.ex (Ex.move rfl) rfl rfl rfl ?_
    obtain ⟨y92, hy92, hf⟩ := bnd hf
    refine Ops.call rfl rfl Try.func35 (by kernel_rfl) (by kernel_rfl) rfl (go_slices_insertionSortCmpFunc_api_Ref_plan_kind_c1.walk (p0 := l88) (p1 := x89) (p2 := x90) (hst := hst91) (f1 := f88) (hn1 := hn88) (hf := hy92)) ?_
    rintro _ w92 ⟨z92, d93, rfl, hz92, f93, hn93, hst92⟩
    refine ⟨_, rfl, ?_⟩
    replace hz91 := hz91.trans hz92
    refine Ops.nil ?_
    refine Run.seq ?_
    refine Run.region ?_
    refine Ops.ex (Ex.move rfl) rfl rfl rfl ?_
    refine Ops.ex (Ex.assign rfl) rfl rfl rfl ?_
    refine Ops.nil ?_
    refine Run.region ?_
    refine Ops.ex (Ex.move rfl) rfl rfl rfl ?_
    refine Ops.ex (Ex.move rfl) rfl rfl rfl ?_
    refine Ops.ex (Ex.add rfl rfl) rfl rfl rfl ?_
    refine Ops.ex (Ex.assign rfl) rfl rfl rfl ?_
    refine Ops.nil ?_
    refine Run.endBlk ?_
    exact Run.sub (by exact subB_spec ⟨rfl, rfl, rfl, rfl, rfl, rfl, trivial⟩) (Run.stop ⟨mb3', Nat.lt_succ_self _, y92, x90, wr (x90 + 20), d93, z92, (hnxb3 _).symm.trans hf, rfl, hz91, f93, hn93, hst92⟩)
  · replace hf := ifF (dec_F hc) hf
    refine Run.exit _ rfl ?_
    refine Run.seq ?_
    refine Run.region ?_
    refine Ops.ex (Ex.move rfl) rfl rfl rfl ?_
    refine Ops.ex (Ex.move rfl) rfl rfl rfl ?_
    refine Ops.ex (Ex.move rfl) rfl rfl rfl ?_
    refine Ops.ex (Ex.move rfl) rfl rfl rfl ?_
    obtain ⟨y94, hy94, hf⟩ := bnd hf
    refine Ops.call rfl rfl Try.func35 (by kernel_rfl) (by kernel_rfl) rfl (go_slices_insertionSortCmpFunc_api_Ref_plan_kind_c1.walk (p0 := l88) (p1 := x89) (p2 := p1) (hst := hst91) (f1 := f88) (hn1 := hn88) (hf := hy94)) ?_
    rintro _ w94 ⟨z94, d95, rfl, hz94, f95, hn95, hst94⟩
    refine ⟨_, rfl, ?_⟩
    replace hz91 := hz91.trans hz94
    refine Ops.nil ?_
    refine Run.block ?_
    have hm97 := Le.refl z94
    refine Run.sub (e' := [(0, .slice A1 n1 c1), (1, vi p1), (2, .func (.func 28) #[] #[]), (6, vi 20)]) (subB_spec ⟨rfl, rfl, rfl, rfl, trivial⟩) ?_
    refine Run.loop (fun mb96 => (fun e' w' => ∃ (x120 : Int) (z119 : Zp), loopF (go_slices_stableCmpFunc_api_Ref_plan_kind_c1.b2 p1 y94) mb96 x120 = some r ∧ e' = [(0, .slice A1 n1 c1), (1, vi p1), (2, .func (.func 28) #[] #[]), (6, vi x120)] ∧ Le z94 z119 ∧ Le z0 z119 ∧ Ht w0 (frz z119 :: (orow 37 4 (.slice A1 n1 c1) n1 d95) :: X) w')) fuel ⟨20, z94, hf, rfl, hm97, hz91, hst94⟩ ?_
    rintro mb96 e' w121 ⟨x120, z119, hf, rfl, hz121, hy121_0, hst121⟩
    replace f95 := f95.mono hz121
    obtain ⟨mb96', nxb96, rfl, hnxb96, hf⟩ := loopF_in hf
    unfold go_slices_stableCmpFunc_api_Ref_plan_kind_c1.b2 at hf
    try dsimp only at hf
    refine Run.seq ?_
    refine Run.seq ?_
    refine Run.region ?_
    refine Ops.ex (Ex.move rfl) rfl rfl rfl ?_
    refine Ops.ex (Ex.move rfl) rfl rfl rfl ?_
    refine Ops.ex (Ex.lss rfl rfl) rfl rfl rfl ?_
    refine Ops.nil ?_
    refine Run.cond rfl (fun hc => ?_) (fun hc => ?_)
    · replace hf := ifT (dec_T hc) hf
      refine Run.skip ?_
      refine Run.block ?_
      refine Run.seq ?_
      refine Run.region ?_
      refine Ops.ex (Ex.move rfl) rfl rfl rfl ?_
      refine Ops.ex (Ex.mul rfl rfl) rfl rfl rfl ?_
      refine Ops.ex (Ex.assign rfl) rfl rfl rfl ?_
      refine Ops.ex (Ex.assign rfl) rfl rfl rfl ?_
      refine Ops.nil ?_
      refine Run.seq ?_
      refine Run.block ?_
      have hm123 := Le.refl z119
      refine Run.sub (e' := [(0, .slice A1 n1 c1), (1, vi p1), (2, .func (.func 28) #[] #[]), (6, vi x120), (7, vi 0), (8, vi (wr (2 * x120)))]) (subB_spec ⟨rfl, rfl, rfl, rfl, rfl, rfl, trivial⟩) ?_
      refine Run.loop (fun mb122 => (fun e' w' => ∃ (z128 : Zp), loopF (go_slices_stableCmpFunc_api_Ref_plan_kind_c1.b3 p1 x120 nxb96) mb122 () = some r ∧ e' = [(0, .slice A1 n1 c1), (1, vi p1), (2, .func (.func 28) #[] #[]), (6, vi x120), (7, vi 0), (8, vi (wr (2 * x120)))] ∧ Le z119 z128 ∧ Le z0 z128 ∧ Le z94 z128 ∧ Ht w0 (frz z128 :: (orow 37 4 (.slice A1 n1 c1) n1 d95) :: X) w')) fuel ⟨z119, hf, rfl, hm123, hy121_0, hz121, hst121⟩ ?_
      rintro mb122 e' w129 ⟨z128, hf, rfl, hz129, hy129_0, hy129_1, hst129⟩
      replace f95 := f95.mono hz129
      obtain ⟨mb122', nxb122, rfl, hnxb122, hf⟩ := loopF_in hf
      unfold go_slices_stableCmpFunc_api_Ref_plan_kind_c1.b3 at hf
      try dsimp only at hf
      refine Run.seq ?_
      refine Run.seq ?_
      refine Run.region ?_
      refine Ops.ex (Ex.move rfl) rfl rfl rfl ?_
      refine Ops.ex (Ex.move rfl) rfl rfl rfl ?_
      refine Ops.ex (Ex.leq rfl rfl) rfl rfl rfl ?_
      refine Ops.nil ?_
      refine Run.cond rfl (fun hc => ?_) (fun hc => ?_)
      · replace hf := ifT (dec_T hc) hf
        refine Run.skip ?_
        refine Run.block ?_
        refine Run.seq ?_
        refine Run.region ?_
        refine Ops.ex (Ex.move rfl) rfl rfl rfl ?_
        refine Ops.ex (Ex.move rfl) rfl rfl rfl ?_
        refine Ops.ex (Ex.move rfl) rfl rfl rfl ?_
        refine Ops.ex (Ex.move rfl) rfl rfl rfl ?_
        refine Ops.ex (Ex.add rfl rfl) rfl rfl rfl ?_
        refine Ops.ex (Ex.move rfl) rfl rfl rfl ?_
        refine Ops.ex (Ex.move rfl) rfl rfl rfl ?_
        cases hf
      · replace hf := ifF (dec_F hc) hf
        refine Run.exit _ rfl ?_
        refine Run.seq ?_
        refine Run.seq ?_
        refine Run.region ?_
        refine Ops.ex (Ex.move rfl) rfl rfl rfl ?_
        refine Ops.ex (Ex.move rfl) rfl rfl rfl ?_
        refine Ops.ex (Ex.add rfl rfl) rfl rfl rfl ?_
        refine Ops.ex (Ex.assign rfl) rfl rfl rfl ?_
        refine Ops.nil ?_
        refine Run.seq ?_
        refine Run.region ?_
        refine Ops.ex (Ex.move rfl) rfl rfl rfl ?_
        refine Ops.ex (Ex.move rfl) rfl rfl rfl ?_
        refine Ops.ex (Ex.lss rfl rfl) rfl rfl rfl ?_
        refine Ops.nil ?_
        refine Run.cond rfl (fun hc => ?_) (fun hc => ?_)
        · replace hf := ifT (dec_T hc) hf
          refine Run.region ?_
          refine Ops.ex (Ex.move rfl) rfl rfl rfl ?_
          refine Ops.ex (Ex.move rfl) rfl rfl rfl ?_
          refine Ops.ex (Ex.move rfl) rfl rfl rfl ?_
          refine Ops.ex (Ex.move rfl) rfl rfl rfl ?_
          refine Ops.ex (Ex.move rfl) rfl rfl rfl ?_
          cases hf
        · replace hf := ifF (dec_F hc) hf
          refine Run.skip ?_
          refine Run.region ?_
          refine Ops.ex (Ex.move rfl) rfl rfl rfl ?_
          refine Ops.ex (Ex.mul rfl rfl) rfl rfl rfl ?_
          refine Ops.ex (Ex.assign rfl) rfl rfl rfl ?_
          refine Ops.nil ?_
          refine Run.endBlk ?_
          exact Run.sub (by exact subB_spec ⟨rfl, rfl, rfl, rfl, trivial⟩) (Run.stop ⟨mb96', Nat.lt_succ_self _, wr (x120 * 2), z128, (hnxb96 _).symm.trans hf, rfl, hy129_1, hy129_0, hst129⟩)
    · replace hf := ifF (dec_F hc) hf
      refine Run.exit _ rfl ?_
      obtain rfl := Option.some.inj hf
      exact Run.doneV [] rfl trivial ⟨z119, d95, rfl, hy121_0, f95, hn95, hst121⟩
def go_slices_SortStableFunc_api_Ref_api_Ref_plan_kind_c1 (p0 : List apiRef) : Option (List apiRef) :=
  (go_slices_stableCmpFunc_api_Ref_plan_kind_c1 p0 (p0.length : Int)).bind fun y2 => some y2
set_option maxRecDepth 100000 in
set_option maxHeartbeats 4000000 in
theorem go_slices_SortStableFunc_api_Ref_api_Ref_plan_kind_c1.walk {w0 w : World} {X : List Res} {z0 : Zp} {p0 : List apiRef} {A1 : Option Addr} {c1 : Nat} {n1 : Nat} {d1 : List Value} {r : List apiRef} (hst : Ht w0 (frz z0 :: (orow 37 4 (.slice A1 n1 c1) n1 d1) :: X) w) (f1 : Cs tapiRef z0 d1 p0) (hn1 : p0.length = n1) (hf : go_slices_SortStableFunc_api_Ref_api_Ref_plan_kind_c1 p0 = some r) :
    Calls Try.prog 27 #[.slice A1 n1 c1, .func (.func 28) #[] #[]] w fun e w' => ∃ (z' : Zp) (d9001 : List Value), e = .returned (.tuple #[]) ∧ Le z0 z' ∧ Cs tapiRef z' d9001 r ∧ r.length = n1 ∧ Ht w0 (frz z' :: (orow 37 4 (.slice A1 n1 c1) n1 d9001) :: X) w' := by
  refine calls_np Try.func27 rfl rfl ?_
  have hle0 := Le.refl z0
  unfold go_slices_SortStableFunc_api_Ref_api_Ref_plan_kind_c1 at hf
  refine Run.region ?_
  refine Ops.ex (Ex.move rfl) rfl rfl rfl ?_
  refine Ops.ex (Ex.move rfl) rfl rfl rfl ?_
  refine Ops.ex (Ex.eq (Ex.len' rfl rfl rfl Try.underlying25) (congrArg (fun n : Nat => vi (n : Int)) hn1.symm)) rfl rfl rfl ?_
  refine Ops.ex (Ex.move rfl) rfl rfl rfl ?_
  obtain ⟨y2, hy2, hf⟩ := bnd hf
  refine Ops.call rfl rfl Try.func34 (by kernel_rfl) (by kernel_rfl) rfl (go_slices_stableCmpFunc_api_Ref_plan_kind_c1.walk (p0 := p0) (p1 := (p0.length : Int)) (hst := hst) (f1 := f1) (hn1 := hn1) (hf := hy2)) ?_
  rintro _ w2 ⟨z2, d3, rfl, hz2, f3, hn3, hst2⟩
  refine ⟨_, rfl, ?_⟩
  replace hle0 := hle0.trans hz2
  refine Ops.nil ?_
  obtain rfl := Option.some.inj hf
  exact Run.doneV [] rfl trivial ⟨z2, d3, rfl, hle0, f3, hn3, hst2⟩
def go_plan_kind.b1 (p1 : Int) (i5 : Nat) (a5 : apiRef) : (List apiRef) → (List apiRef → Option (List apiRef)) → Option (List apiRef) :=
  fun l40 nxb5 => if a5.Kind = p1 then ((apB 40 l40 [a5]).bind fun l52 => nxb5 l52) else (nxb5 l40)
def go_plan_kind (p0 : editsSet) (p1 : Int) : Option (List apiRef) :=
  forL (go_plan_kind.b1 p1) (fun l40 => (go_slices_SortStableFunc_api_Ref_api_Ref_plan_kind_c1 l40).bind fun y53 => some y53) 0 p0.Refs []
set_option maxRecDepth 100000 in
set_option maxHeartbeats 4000000 in
theorem go_plan_kind.walk {w0 w : World} {X : List Res} {z0 : Zp} {p0 : editsSet} {A1 : Option Addr} {c1 : Nat} {p1 : Int} {r : List apiRef} (hst : Ht w0 (frz z0 :: X) w) (f1 : Sl tapiRef z0 A1 c1 p0.Refs) (hf : go_plan_kind p0 p1 = some r) :
    Calls Try.prog 19 #[.agg #[.slice A1 p0.Refs.length c1, vi p0.Floor], vi p1] w fun e w' => ∃ (z' : Zp) (A9001 : Option Addr) (c9001 : Nat), e = .returned (.slice A9001 r.length c9001) ∧ Le z0 z' ∧ Sl tapiRef z' A9001 c9001 r ∧ Ht w0 (frz z' :: X) w' := by
  refine calls_np Try.func19 rfl rfl ?_
  have hle0 := Le.refl z0
  unfold go_plan_kind at hf
  refine Run.seq ?_
  refine Run.region ?_
  refine Ops.boxF [.slice A1 p0.Refs.length c1, vi p0.Floor] hst rfl rfl rfl (fun g4 w4 hst4 => ?_)
  refine Ops.ex (Ex.assign rfl) rfl rfl rfl ?_
  refine Ops.nil ?_
  refine Run.seq ?_
  refine Run.region ?_
  refine Ops.ex (Ex.assign rfl) rfl rfl rfl ?_
  refine Ops.nil ?_
  refine Run.seq ?_
  refine Run.seq ?_
  refine Run.region ?_
  refine Ops.ex (Ex.fieldAddr rfl Try.underlying27 rfl sz25) rfl rfl rfl ?_
  refine Ops.load rfl Try.underlying25 rfl (hst4.cell (i := 1) rfl rfl) rfl ?_
  refine Ops.ex (Ex.len' rfl rfl rfl Try.underlying25) rfl rfl rfl ?_
  refine Ops.ex (Ex.move rfl) rfl rfl rfl ?_
  refine Ops.nil ?_
  refine Run.block ?_
  have hc5 := f1.cap
  have hst41 := hst4.row0 37 4
  refine Run.sub (e' := [(1, vi p1), (5, .slice none 0 0), (9, .slice A1 p0.Refs.length c1), (10, vi (p0.Refs.length : Int)), (11, vi ((0 : Nat) : Int))]) (subB_spec ⟨rfl, rfl, rfl, rfl, rfl, trivial⟩) ?_
  refine Run.loop (fun mb5 => (fun e' w' => ∃ (i5 : Nat) (l40 : List apiRef) (A40 : Option Addr) (c40 : Nat) (d40 : List Value) (z39 : Zp), mb5 = p0.Refs.length - i5 ∧ i5 ≤ p0.Refs.length ∧ forL (go_plan_kind.b1 p1) (fun l40 => (go_slices_SortStableFunc_api_Ref_api_Ref_plan_kind_c1 l40).bind fun y53 => some y53) i5 (p0.Refs.drop i5) l40 = some r ∧ e' = [(1, vi p1), (5, .slice A40 l40.length c40), (9, .slice A1 p0.Refs.length c1), (10, vi (p0.Refs.length : Int)), (11, vi (i5 : Int))] ∧ Le z0 z39 ∧ Cs tapiRef z39 d40 l40 ∧ Ht w0 (frz z39 :: (orow 37 4 (.slice A40 l40.length c40) l40.length d40) :: X) w')) p0.Refs.length ⟨0, [], none, 0, [], z0, rfl, Nat.zero_le _, hf, rfl, hle0, (Cs.nil _ _), (St.forget hst41 2)⟩ ?_
  rintro _ e' w43 ⟨i5, l40, A40, c40, d40, z39, rfl, hi5, hf, rfl, hz43, f40, hst43⟩
  replace f1 := f1.mono hz43
  refine Run.seq ?_
  refine Run.region ?_
  refine Ops.ex (Ex.lss rfl rfl) rfl rfl rfl ?_
  refine Ops.nil ?_
  refine Run.seq ?_
  refine Run.cond rfl (fun hc => ?_) (fun hc => ?_)
  · have hl5 := lt_of_dec hc
    obtain ⟨a5, nxb5, ha5, hnxb5, hf⟩ := forL_in hf hl5
    unfold go_plan_kind.b1 at hf
    try dsimp only at hf
    refine Run.skip ?_
    refine Run.seq ?_
    refine Run.block ?_
    refine Run.seq ?_
    refine Run.region ?_
    obtain ⟨g48, p48, o48, cs48, hA48, ho48, hr48, f48⟩ := SlH.elem f1.toH (atI_nat ha5)
    obtain rfl := hr48
    refine Ops.ex (Ex.ixA hA48 ho48 (atI_nat ha5) rfl rfl rfl Try.underlying25 sz37) rfl rfl rfl ?_
    refine Ops.loadAgg [vs a5.Name, vi a5.Kind, vi a5.From, vi a5.To] rfl Try.underlying37 rfl sz37 rfl (cells_of_zc rfl (f48.mono hst43.le)) rfl ?_
    refine Ops.allocF [vs [], vi 0, vi 0, vi 0] hst43 zr37 rfl rfl (fun g49 w49 hst49 => ?_)
    refine Ops.store 1 [vs a5.Name, vi a5.Kind, vi a5.From, vi a5.To] hst49 rfl rfl rfl rfl sz37 rfl (by simp [Value.oneCell']) (by simp) (fun w50 hst50 => ?_)
    refine Ops.nil ?_
    refine Run.seq ?_
    refine Run.region ?_
    refine Ops.ex (Ex.fieldAddr rfl Try.underlying37 rfl sz35) rfl rfl rfl ?_
    refine Ops.load rfl Try.underlying35 rfl (hst50.cell (i := 1) rfl rfl) rfl ?_
    refine Ops.ex (Ex.move rfl) rfl rfl rfl ?_
    refine Ops.ex (Ex.eqlI rfl rfl) rfl rfl rfl ?_
    refine Ops.nil ?_
    refine Run.cond rfl (fun hc => ?_) (fun hc => ?_)
    · replace hf := ifT (dec_T hc) hf
      refine Run.region ?_
      refine Ops.ex (Ex.move rfl) rfl rfl rfl ?_
      refine Ops.loadAgg _ rfl Try.underlying37 rfl sz37 rfl (hst50.cells (i := 1) rfl 0 4) rfl ?_
      refine Ops.sliceF [vs a5.Name, vi a5.Kind, vi a5.From, vi a5.To] hst50 rfl Try.underlying25 sz37 zr37 rfl rfl (by kernel_rfl) rfl (by simp [Value.oneCell']) rfl (fun A51 w51 hst51 => ?_)
      have f51 : Cs tapiRef z39 [vs a5.Name, vi a5.Kind, vi a5.From, vi a5.To] [a5] := (Cs.cons (c := [vs a5.Name, vi a5.Kind, vi a5.From, vi a5.To]) rfl (Cs.nil _ _))
      obtain ⟨l52, hy52, hf⟩ := bnd hf
      refine Ops.app 3 hst51 rfl f40 rfl (own_slh f51 rfl (hst51.get (i := 1) rfl)) rfl hy52 rfl rfl rfl rfl Try.underlying25 inf37 rfl (by decide) (by decide) rfl (fun A52 c52 d52 w52 f52 hst52 => ?_)
      refine Ops.ex (Ex.assign rfl) rfl rfl rfl ?_
      refine Ops.nil ?_
      refine Run.endBlk ?_
      refine Run.region ?_
      refine Ops.ex (Ex.add rfl rfl) rfl rfl rfl ?_
      refine Ops.ex (Ex.move rfl) rfl rfl rfl ?_
      refine Ops.nil ?_
      refine Run.re 11 rfl (congrArg vi (wr_succ' hl5 hc5)) ?_
      exact Run.sub (by exact subB_spec ⟨rfl, rfl, rfl, rfl, rfl, trivial⟩) (Run.stop ⟨p0.Refs.length - (i5 + 1), by omega, i5 + 1, l52, A52, c52, d52, z39, rfl, by omega, (hnxb5 _).symm.trans hf, rfl, hz43, f52, (St.forget (St.forget hst52 2) 1)⟩)
    · replace hf := ifF (dec_F hc) hf
      refine Run.skip ?_
      refine Run.endBlk ?_
      refine Run.region ?_
      refine Ops.ex (Ex.add rfl rfl) rfl rfl rfl ?_
      refine Ops.ex (Ex.move rfl) rfl rfl rfl ?_
      refine Ops.nil ?_
      refine Run.re 11 rfl (congrArg vi (wr_succ' hl5 hc5)) ?_
      exact Run.sub (by exact subB_spec ⟨rfl, rfl, rfl, rfl, rfl, trivial⟩) (Run.stop ⟨p0.Refs.length - (i5 + 1), by omega, i5 + 1, l40, A40, c40, d40, z39, rfl, by omega, (hnxb5 _).symm.trans hf, rfl, hz43, f40, (St.forget hst50 1)⟩)
  · replace hf := forL_out hf (nlt_of_dec hc)
    try dsimp only at hf
    refine Run.exit _ rfl ?_
    refine Run.seq ?_
    refine Run.region ?_
    refine Ops.ex (Ex.move rfl) rfl rfl rfl ?_
    obtain ⟨y53, hy53, hf⟩ := bnd hf
    refine Ops.call rfl rfl Try.func27 (by kernel_rfl) (by kernel_rfl) rfl (go_slices_SortStableFunc_api_Ref_api_Ref_plan_kind_c1.walk (p0 := l40) (hst := hst43) (f1 := f40) (hn1 := rfl) (hf := hy53)) ?_
    rintro _ w53 ⟨z53, d54, rfl, hz53, f54, hn54, hst53⟩
    refine ⟨_, rfl, ?_⟩
    replace f1 := f1.mono hz53
    replace hz43 := hz43.trans hz53
    refine Ops.nil ?_
    refine Run.seq ?_
    refine Run.region ?_
    refine Ops.ex (Ex.move rfl) rfl rfl rfl ?_
    refine Ops.ex (Ex.assign rfl) rfl rfl rfl ?_
    refine Ops.nil ?_
    obtain ⟨z55, hz55, f55, hst55⟩ := St.freeze (τ := tapiRef) (xs := y53) hst53 f54 hn54
    replace f1 := f1.mono hz55
    replace hz43 := hz43.trans hz55
    refine Run.re 4 rfl (congrArg (fun n => Value.slice A40 n c40) hn54.symm) ?_
    obtain rfl := Option.some.inj hf
    exact Run.retV [.slice A40 y53.length c40] rfl ⟨rfl, trivial⟩ ⟨z55, A40, c40, rfl, hz43, f55, hst55⟩
end Go.Proofs.Ytbinmebiknjncaa.P1
