/- Net: awake, NetScript. -/
import Derived.Test.YtiijlkebolfcpaaN1
namespace Go.Proofs.Ytiijlkebolfcpaa.N2
open Go Go.RowKit Go.Proofs.Ytiijlkebolfcpaa.Sx Go.Proofs.Ytiijlkebolfcpaa.N1
set_option linter.unusedVariables false
set_option linter.unusedSimpArgs false
structure law15Act where
  Op : UInt8
  At : Int16
  Row : List Int16
  deriving DecidableEq
def tlaw15Act : Ty law15Act where
  sz := 3
  R := fun ζ cs x => ∃ A2 c2, cs = [vu8 x.Op, vi16 x.At, .slice A2 x.Row.length c2] ∧ Sl tI16 ζ A2 c2 x.Row
  len := by rintro ζ cs x ⟨A2, c2, rfl, f2⟩; rfl
  one := by
    rintro ζ cs x ⟨A2, c2, rfl, f2⟩ u hu
    simp only [List.mem_cons, List.not_mem_nil, or_false] at hu
    rcases hu with rfl | rfl | rfl <;> rfl
  mono := by rintro ζ ζ' cs x ⟨A2, c2, rfl, f2⟩ hl; exact ⟨A2, c2, rfl, f2.mono hl⟩
theorem zr43 : (Try.prog.info? 43).map (·.zero) = some (some (.agg #[.slice none 0 0, .int .i64 0])) := by kernel_rfl
theorem pl43 {fs : Array Field} (h : Try.prog.underlying 43 = some (.struct fs)) (w : World) : (fs.mapM fun f => do pure (f.offset, ← sizeOf f.type) : Sem (Array (Nat × Nat))).run Try.prog w = .ok #[(0, 1), (1, 1)] w := by
  rw [Try.underlying43] at h
  cases h
  kernel_rfl
theorem sz47 : (Try.prog.info? 47).map (·.size) = some 3 := by kernel_rfl
theorem zr47 : (Try.prog.info? 47).map (·.zero) = some (some (.agg #[.int .u8 0, .int .i16 0, .slice none 0 0])) := by kernel_rfl
theorem sz5 : (Try.prog.info? 5).map (·.size) = some 1 := by kernel_rfl
theorem sz45 : (Try.prog.info? 45).map (·.size) = some 1 := by kernel_rfl
theorem sz44 : (Try.prog.info? 44).map (·.size) = some 1 := by kernel_rfl
def go_law15_awake.z1 : Int → Int → Option (Bool × (Int × Nat)) :=
  fun a25_0 x32 => some (true, (wr ((wr (10 * x32)) + a25_0), 0))
def go_law15_awake : Option Bool :=
  (go_net_Net_int_Send (⟨[], 0⟩ : netNetint) [1, 2, 3]).bind fun y3 => (go_net_Net_int_Take y3 4).bind fun y9 => (go_net_Net_int_Twice y9.2.2 (-1)).bind fun y14 => (go_net_Net_int_Len y14.2).bind fun y20 => if y20 = 3 then ((go_net_Net_int_All y14.2).bind fun y22 => (go_net_Net_int_All_c1 (yw (go_law15_awake.z1)) (0, 0) y14.2).bind fun (x32, yj25) => if yj25 = 0 then (if y9.2.1 then (if y9.1 = 2 then (if y14.1 then (if x32 = 133 then ((go_net_Net_int_Len y14.2).bind fun y36 => if y36 = 3 then ((go_net_Net_int_Drop y14.2 0).bind fun y38 => if y38.1 then ((go_net_Net_int_Lost y38.2).bind fun y42 => some (decide (y42 = 1))) else (some false)) else (some false)) else (some false)) else (some false)) else (some false)) else (some false)) else (none)) else (some false)
set_option maxRecDepth 100000 in
set_option maxHeartbeats 4000000 in
theorem go_law15_awake.walk {w0 w : World} {X : List Res} {z0 : Zp}  {r : Bool} (hst : Ht w0 (frz z0 :: X) w) (hf : go_law15_awake = some r) :
    Calls Try.prog 17 #[] w fun e w' => ∃ (z' : Zp), e = .returned (vb r) ∧ Le z0 z' ∧ Ht w0 (frz z' :: X) w' := by
  refine calls_np Try.func17 rfl rfl ?_
  have hle0 := Le.refl z0
  unfold go_law15_awake at hf
  refine Run.seq ?_
  refine Run.region ?_
  refine Ops.ex (Ex.assign rfl) rfl rfl rfl ?_
  refine Ops.nil ?_
  refine Run.seq ?_
  refine Run.region ?_
  refine Ops.ex (Ex.build [.slice none 0 0, vi 0] rfl Try.underlying43 zr43 (pl43 Try.underlying43) (by kernel_rfl)) rfl rfl rfl ?_
  refine Ops.boxF [.slice none 0 0, vi 0] hst rfl rfl rfl (fun g1 w1 hst1 => ?_)
  refine Ops.ex (Ex.assign rfl) rfl rfl rfl ?_
  refine Ops.nil ?_
  refine Run.seq ?_
  refine Run.region ?_
  refine Ops.ex (Ex.move rfl) rfl rfl rfl ?_
  refine Ops.sliceF [vi 1, vi 2, vi 3] hst1 rfl Try.underlying41 sz3 zr3 rfl rfl (by kernel_rfl) rfl (by simp [Value.oneCell']) rfl (fun A2 w2 hst2 => ?_)
  have f2 : Cs tI z0 [vi 1, vi 2, vi 3] [1, 2, 3] := (Cs.cons (c := [vi 1]) rfl (Cs.cons (c := [vi 2]) rfl (Cs.cons (c := [vi 3]) rfl (Cs.nil _ _))))
  obtain ⟨z4, hz4, f4, hst4⟩ := St.freeze (τ := tI) (xs := [1, 2, 3]) hst2 f2 rfl
  replace hle0 := hle0.trans hz4
  have hst5 := St.row0 hst4 3 1
  obtain ⟨y3, hy3, hf⟩ := bnd hf
  refine Ops.call rfl rfl Try.func18 (by kernel_rfl) (by kernel_rfl) rfl (go_net_Net_int_Send.walk (p0 := (⟨[], 0⟩ : netNetint)) (p1 := [1, 2, 3]) (hst := (St.up (St.up (St.up hst5 1 rfl) 2 rfl) 2 rfl)) (f1 := (Cs.nil tI z4)) (f3 := f4) (hf := hy3)) ?_
  rintro _ w3 ⟨z3, A7, c7, d7, rfl, hz3, f7, hst3⟩
  refine ⟨_, rfl, ?_⟩
  replace f4 := f4.mono hz3
  replace hle0 := hle0.trans hz3
  refine Ops.nil ?_
  refine Run.seq ?_
  refine Run.region ?_
  refine Ops.ex (Ex.move rfl) rfl rfl rfl ?_
  obtain ⟨y9, hy9, hf⟩ := bnd hf
  refine Ops.call rfl rfl Try.func19 (by kernel_rfl) (by kernel_rfl) rfl (go_net_Net_int_Take.walk (p0 := y3) (p1 := 4) (hst := hst3) (f1 := f7) (hf := hy9)) ?_
  rintro _ w9 ⟨z9, A12, c12, d12, rfl, hz9, f12, hst9⟩
  refine ⟨_, rfl, ?_⟩
  replace f4 := f4.mono hz9
  replace hle0 := hle0.trans hz9
  refine Ops.ex (Ex.move rfl) rfl rfl rfl ?_
  refine Ops.ex (Ex.extract rfl rfl) rfl rfl rfl ?_
  refine Ops.ex (Ex.extract rfl rfl) rfl rfl rfl ?_
  refine Ops.ex (Ex.assign rfl) rfl rfl rfl ?_
  refine Ops.ex (Ex.assign rfl) rfl rfl rfl ?_
  refine Ops.nil ?_
  refine Run.seq ?_
  refine Run.region ?_
  refine Ops.ex (Ex.move rfl) rfl rfl rfl ?_
  obtain ⟨y14, hy14, hf⟩ := bnd hf
  refine Ops.call rfl rfl Try.func22 (by kernel_rfl) (by kernel_rfl) rfl (go_net_Net_int_Twice.walk (p0 := y9.2.2) (p1 := (-1)) (hst := hst9) (f1 := f12) (hf := hy14)) ?_
  rintro _ w14 ⟨z14, A16, c16, d16, rfl, hz14, f16, hst14⟩
  refine ⟨_, rfl, ?_⟩
  replace f4 := f4.mono hz14
  replace hle0 := hle0.trans hz14
  refine Ops.ex (Ex.assign rfl) rfl rfl rfl ?_
  refine Ops.nil ?_
  refine Run.seq ?_
  refine Run.region ?_
  refine Ops.allocF [vi 0] hst14 zr3 rfl rfl (fun g18 w18 hst18 => ?_)
  refine Ops.store 1 [vi 0] hst18 rfl rfl rfl rfl sz3 rfl (by simp [Value.oneCell']) (by simp) (fun w19 hst19 => ?_)
  refine Ops.nil ?_
  refine Run.seq ?_
  refine Run.seq ?_
  refine Run.region ?_
  refine Ops.ex (Ex.move rfl) rfl rfl rfl ?_
  obtain ⟨y20, hy20, hf⟩ := bnd hf
  refine Ops.call rfl rfl Try.func30 (by kernel_rfl) (by kernel_rfl) rfl (go_net_Net_int_Len.walk (p0 := y14.2) (hst := (St.up (St.up (St.up (St.up hst19 1 rfl) 3 rfl) 3 rfl) 3 rfl)) (f1 := f16) (hf := hy20)) ?_
  rintro _ w20 ⟨z20, rfl, hz20, hst20⟩
  refine ⟨_, rfl, ?_⟩
  replace f4 := f4.mono hz20; replace f16 := f16.mono hz20
  replace hle0 := hle0.trans hz20
  refine Ops.ex (Ex.neqI rfl rfl) rfl rfl rfl ?_
  refine Ops.nil ?_
  refine Run.cond rfl (fun hc => ?_) (fun hc => ?_)
  · replace hf := ifF (neq_T hc) hf
    refine Run.seq ?_
    refine Run.region ?_
    refine Ops.ex (Ex.assign rfl) rfl rfl rfl ?_
    refine Ops.nil ?_
    obtain rfl := Option.some.inj hf
    exact Run.retV [vb false] rfl ⟨rfl, trivial⟩ ⟨z20, rfl, hle0, (St.forget (St.forget (St.forget hst20 3) 2) 1)⟩
  · replace hf := ifT (neq_F hc) hf
    refine Run.skip ?_
    refine Run.seq ?_
    refine Run.seq ?_
    refine Run.region ?_
    refine Ops.ex (Ex.move rfl) rfl rfl rfl ?_
    obtain ⟨y22, hy22, hf⟩ := bnd hf
    refine Ops.call rfl rfl Try.func29 (by kernel_rfl) (by kernel_rfl) rfl (go_net_Net_int_All.walk (p0 := y14.2) (hst := hst20) (f1 := f16) (hf := hy22)) ?_
    rintro _ w22 ⟨z22, g23, rfl, hz22, hst22⟩
    refine ⟨_, rfl, ?_⟩
    replace f4 := f4.mono hz22; replace f16 := f16.mono hz22
    replace hle0 := hle0.trans hz22
    refine Ops.nil ?_
    refine Run.block ?_
    have hm24 := Le.refl z22
    obtain ⟨⟨ys25, yj25⟩, hy25, hf⟩ := bnd hf
    try dsimp only at hf
    refine Run.rangeZ (fun (s_ : Int) (z31 : Zp) (Hs_ : List Res) => ∃ (x32 : Int), x32 = s_ ∧ Le z22 z31 ∧ Le z0 z31 ∧ Hs_ = [blk g18 [vi x32] 3]) (fun z a vs => vs = [vi a]) (go_law15_awake.z1) (fun _ => Code.skip) rfl rfl Try.func37 (by kernel_rfl) (by kernel_rfl) ?_ rfl (s0 := 0) (s1 := ys25) (j1 := yj25) (Hs := [blk g18 [vi 0] 3]) (X := (blk g23 [.pointer (some ⟨g1, 0, none⟩)] 40 :: blk g1 [.slice A16 y14.2.wait_.length c16, vi y14.2.lost_] 43 :: orow 3 1 (.slice A16 y14.2.wait_.length c16) y14.2.wait_.length d16 :: X)) ⟨0, rfl, hm24, hle0, rfl⟩ (St.up (St.up (St.up (St.up (St.up hst22 2 rfl) 2 rfl) 3 rfl) 4 rfl) 4 rfl) ?_ ?_ ?_ ?_
    · rintro _ _ _ rfl
      rfl
    · intro l_ J_ W_ Hs_ hY_ hJ_ hst_
      refine (go_net_Net_int_All_c1.walk (yield := yw (go_law15_awake.z1)) (s0 := (0, 0)) (q0 := y14.2) (hst := St.swp (M := Hs_) (Hs := [blk g23 [.pointer (some ⟨g1, 0, none⟩)] 40, blk g1 [.slice A16 y14.2.wait_.length c16, vi y14.2.lost_] 43, orow 3 1 (.slice A16 y14.2.wait_.length c16) y14.2.wait_.length d16]) (X := X) hst_) (Hs0 := Hs_) (X := X) (hY := hY_) (hJ0 := hJ_) (f1 := f16) (hf := hy25)).mono ?_
      rintro _ W'_ ⟨z'_, Hs33, rfl, hl_, hJ33, hst'_⟩
      exact ⟨⟨_, rfl⟩, z'_, _, hl_, hJ33, St.swp (M := [blk g23 [.pointer (some ⟨g1, 0, none⟩)] 40, blk g1 [.slice A16 y14.2.wait_.length c16, vi y14.2.lost_] 43, orow 3 1 (.slice A16 y14.2.wait_.length c16) y14.2.wait_.length d16]) (Hs := Hs33) hst'_⟩
    · rintro s_ ar25 vs_ z1_ zr25 Hs_ Y_ l_ W_ rr_ ⟨x32, rfl, hm25_0, hm25_1, rfl⟩ hz12 hA_ hf hst25
      obtain ⟨a25_0, rfl⟩ : ∃ q, q = ar25 := ⟨_, rfl⟩
      obtain rfl := hA_
      replace f4 := f4.mono (hm25_0.trans hz12)
      replace hm25_0 := hm25_0.trans hz12; replace hm25_1 := hm25_1.trans hz12
      unfold go_law15_awake.z1 at hf
      try dsimp only at hf
      have hzz25 := Le.refl zr25
      replace hst25 : Ht w0 (frz zr25 :: (blk g18 [vi x32] 3) :: Y_) _ := hst25
      refine Run.region ?_
      refine Ops.ex (Ex.assign rfl) rfl rfl rfl ?_
      refine Ops.nil ?_
      refine Run.stop ⟨hst25, fun Y25 W34 hst34 => ?_⟩
      replace hst34 : Ht w0 (frz zr25 :: (blk g18 [vi x32] 3) :: Y25) _ := hst34
      refine Run.block ?_
      refine Run.region ?_
      refine Ops.load rfl Try.underlying3 rfl (hst34.cell (i := 1) rfl rfl) rfl ?_
      refine Ops.ex (Ex.mul rfl rfl) rfl rfl rfl ?_
      refine Ops.ex (Ex.move rfl) rfl rfl rfl ?_
      refine Ops.ex (Ex.add rfl rfl) rfl rfl rfl ?_
      refine Ops.store 1 [vi (wr ((wr (10 * x32)) + a25_0))] hst34 rfl rfl rfl rfl sz3 rfl (by simp [Value.oneCell']) (by simp) (fun w35 hst35 => ?_)
      refine Ops.nil ?_
      refine Run.endBlk ?_
      obtain rfl := Option.some.inj hf
      exact Run.endZ rfl rfl (Le.refl _) ⟨wr ((wr (10 * x32)) + a25_0), rfl, hm25_0, hm25_1, rfl⟩ hst35
    · rintro z1_ zd25 Hs_ D25 W_ h0 ⟨x32, rfl, hm25_0, hm25_1, rfl⟩ hz12 hzd hst25
      replace f4 := f4.mono (hm25_0.trans hz12)
      replace hm25_0 := hm25_0.trans hz12; replace hm25_1 := hm25_1.trans hz12
      replace f16 := f16.mono hzd
      have hst25' : Ht w0 (frz zd25 :: (blk g18 [vi x32] 3) :: ob D25 (.deferred (some [])) :: (blk g23 [.pointer (some ⟨g1, 0, none⟩)] 40) :: (blk g1 [.slice A16 y14.2.wait_.length c16, vi y14.2.lost_] 43) :: (orow 3 1 (.slice A16 y14.2.wait_.length c16) y14.2.wait_.length d16) :: X) _ := hst25
      try dsimp only at hf
      replace hf := ifT h0 hf
      refine Run.endBlk ?_
      refine Run.seq ?_
      refine Run.region ?_
      refine Ops.ex (Ex.move rfl) rfl rfl rfl ?_
      refine Ops.ex (Ex.move rfl) rfl rfl rfl ?_
      refine Ops.case 30 rfl (fun hc => ?_) (fun hc => ?_)
      · replace hf := ifTb hc hf
        refine Ops.on rfl ?_
        refine Ops.ex (Ex.move rfl) rfl rfl rfl ?_
        refine Ops.on rfl ?_
        refine Ops.ex (Ex.eqlI rfl rfl) rfl rfl rfl ?_
        refine Ops.ex (Ex.pickT rfl rfl) rfl rfl rfl ?_
        refine Ops.ex (Ex.move rfl) rfl rfl rfl ?_
        refine Ops.case 34 rfl (fun hc => ?_) (fun hc => ?_)
        · replace hf := ifT (dec_T hc) hf
          refine Ops.on rfl ?_
          refine Ops.ex (Ex.move rfl) rfl rfl rfl ?_
          refine Ops.ex (Ex.pickT rfl rfl) rfl rfl rfl ?_
          refine Ops.ex (Ex.move rfl) rfl rfl rfl ?_
          refine Ops.case 37 rfl (fun hc => ?_) (fun hc => ?_)
          · replace hf := ifTb hc hf
            refine Ops.on rfl ?_
            refine Ops.load rfl Try.underlying3 rfl (hst25'.cell (i := 1) rfl rfl) rfl ?_
            refine Ops.on rfl ?_
            refine Ops.ex (Ex.eqlI rfl rfl) rfl rfl rfl ?_
            refine Ops.ex (Ex.pickT rfl rfl) rfl rfl rfl ?_
            refine Ops.ex (Ex.move rfl) rfl rfl rfl ?_
            refine Ops.case 41 rfl (fun hc => ?_) (fun hc => ?_)
            · replace hf := ifT (dec_T hc) hf
              refine Ops.on rfl ?_
              refine Ops.ex (Ex.move rfl) rfl rfl rfl ?_
              refine Ops.on rfl ?_
              obtain ⟨y36, hy36, hf⟩ := bnd hf
              refine Ops.call rfl rfl Try.func30 (by kernel_rfl) (by kernel_rfl) rfl (go_net_Net_int_Len.walk (p0 := y14.2) (hst := (St.up (St.up (St.up (St.up (St.up (St.up hst25' 3 rfl) 3 rfl) 3 rfl) 5 rfl) 5 rfl) 5 rfl)) (f1 := f16) (hf := hy36)) ?_
              rintro _ w36 ⟨z36, rfl, hz36, hst36⟩
              refine ⟨_, rfl, ?_⟩
              replace f4 := f4.mono hz36; replace f16 := f16.mono hz36
              replace hm25_0 := hm25_0.trans hz36
              replace hm25_1 := hm25_1.trans hz36
              refine Ops.on rfl ?_
              refine Ops.ex (Ex.eqlI rfl rfl) rfl rfl rfl ?_
              refine Ops.ex (Ex.pickT rfl rfl) rfl rfl rfl ?_
              refine Ops.ex (Ex.move rfl) rfl rfl rfl ?_
              refine Ops.case 46 rfl (fun hc => ?_) (fun hc => ?_)
              · replace hf := ifT (dec_T hc) hf
                refine Ops.on rfl ?_
                refine Ops.ex (Ex.move rfl) rfl rfl rfl ?_
                refine Ops.on rfl ?_
                obtain ⟨y38, hy38, hf⟩ := bnd hf
                refine Ops.call rfl rfl Try.func21 (by kernel_rfl) (by kernel_rfl) rfl (go_net_Net_int_Drop.walk (p0 := y14.2) (p1 := 0) (hst := hst36) (f1 := f16) (hf := hy38)) ?_
                rintro _ w38 ⟨z38, A40, c40, d40, rfl, hz38, f40, hst38⟩
                refine ⟨_, rfl, ?_⟩
                replace f4 := f4.mono hz38
                replace hm25_0 := hm25_0.trans hz38
                replace hm25_1 := hm25_1.trans hz38
                refine Ops.ex (Ex.pickT rfl rfl) rfl rfl rfl ?_
                refine Ops.ex (Ex.move rfl) rfl rfl rfl ?_
                refine Ops.case 50 rfl (fun hc => ?_) (fun hc => ?_)
                · replace hf := ifTb hc hf
                  refine Ops.on rfl ?_
                  refine Ops.ex (Ex.move rfl) rfl rfl rfl ?_
                  refine Ops.on rfl ?_
                  obtain ⟨y42, hy42, hf⟩ := bnd hf
                  refine Ops.call rfl rfl Try.func31 (by kernel_rfl) (by kernel_rfl) rfl (go_net_Net_int_Lost.walk (p0 := y38.2) (hst := hst38) (f1 := f40) (hf := hy42)) ?_
                  rintro _ w42 ⟨z42, rfl, hz42, hst42⟩
                  refine ⟨_, rfl, ?_⟩
                  replace f4 := f4.mono hz42; replace f40 := f40.mono hz42
                  replace hm25_0 := hm25_0.trans hz42
                  replace hm25_1 := hm25_1.trans hz42
                  refine Ops.on rfl ?_
                  refine Ops.ex (Ex.eqlI rfl rfl) rfl rfl rfl ?_
                  refine Ops.ex (Ex.pickT rfl rfl) rfl rfl rfl ?_
                  refine Ops.ex (Ex.assign rfl) rfl rfl rfl ?_
                  refine Ops.nil ?_
                  obtain ⟨hD44, hst44⟩ := St.shutD hst42 4 rfl
                  have hst44 : Ht w0 (frz z42 :: (blk g1 [.slice A40 y38.2.wait_.length c40, vi y38.2.lost_] 43) :: (orow 3 1 (.slice A40 y38.2.wait_.length c40) y38.2.wait_.length d40) :: (blk g18 [vi x32] 3) :: ob D25 (.deferred none) :: (blk g23 [.pointer (some ⟨g1, 0, none⟩)] 40) :: X) _ := hst44
                  obtain rfl := Option.some.inj hf
                  exact Run.retW [vb (decide (y42 = 1))] (Shut.cons hD44 (Shut.nil _)) ⟨rfl, trivial⟩ ⟨z42, rfl, hm25_1, (St.forget (St.forget (St.forget (St.forget (St.forget hst44 5) 4) 3) 2) 1)⟩
                · replace hf := ifFb hc hf
                  refine Ops.off rfl rfl ?_
                  refine Ops.off rfl rfl ?_
                  refine Ops.off rfl rfl ?_
                  refine Ops.ex (Ex.pickF rfl rfl) rfl rfl rfl ?_
                  refine Ops.ex (Ex.assign rfl) rfl rfl rfl ?_
                  refine Ops.nil ?_
                  obtain ⟨hD45, hst45⟩ := St.shutD hst38 4 rfl
                  have hst45 : Ht w0 (frz z38 :: (blk g1 [.slice A40 y38.2.wait_.length c40, vi y38.2.lost_] 43) :: (orow 3 1 (.slice A40 y38.2.wait_.length c40) y38.2.wait_.length d40) :: (blk g18 [vi x32] 3) :: ob D25 (.deferred none) :: (blk g23 [.pointer (some ⟨g1, 0, none⟩)] 40) :: X) _ := hst45
                  obtain rfl := Option.some.inj hf
                  exact Run.retW [vb false] (Shut.cons hD45 (Shut.nil _)) ⟨rfl, trivial⟩ ⟨z38, rfl, hm25_1, (St.forget (St.forget (St.forget (St.forget (St.forget hst45 5) 4) 3) 2) 1)⟩
              · replace hf := ifF (dec_F hc) hf
                refine Ops.off rfl rfl ?_
                refine Ops.off rfl rfl ?_
                refine Ops.ex (Ex.pickF rfl rfl) rfl rfl rfl ?_
                refine Ops.ex (Ex.move rfl) rfl rfl rfl ?_
                refine Ops.off rfl rfl ?_
                refine Ops.off rfl rfl ?_
                refine Ops.off rfl rfl ?_
                refine Ops.ex (Ex.pickF rfl rfl) rfl rfl rfl ?_
                refine Ops.ex (Ex.assign rfl) rfl rfl rfl ?_
                refine Ops.nil ?_
                obtain ⟨hD46, hst46⟩ := St.shutD hst36 4 rfl
                have hst46 : Ht w0 (frz z36 :: (blk g1 [.slice A16 y14.2.wait_.length c16, vi y14.2.lost_] 43) :: (orow 3 1 (.slice A16 y14.2.wait_.length c16) y14.2.wait_.length d16) :: (blk g18 [vi x32] 3) :: ob D25 (.deferred none) :: (blk g23 [.pointer (some ⟨g1, 0, none⟩)] 40) :: X) _ := hst46
                obtain rfl := Option.some.inj hf
                exact Run.retW [vb false] (Shut.cons hD46 (Shut.nil _)) ⟨rfl, trivial⟩ ⟨z36, rfl, hm25_1, (St.forget (St.forget (St.forget (St.forget (St.forget hst46 5) 4) 3) 2) 1)⟩
            · replace hf := ifF (dec_F hc) hf
              refine Ops.off rfl rfl ?_
              refine Ops.off rfl rfl ?_
              refine Ops.off rfl rfl ?_
              refine Ops.ex (Ex.pickF rfl rfl) rfl rfl rfl ?_
              refine Ops.ex (Ex.move rfl) rfl rfl rfl ?_
              refine Ops.off rfl rfl ?_
              refine Ops.off rfl rfl ?_
              refine Ops.ex (Ex.pickF rfl rfl) rfl rfl rfl ?_
              refine Ops.ex (Ex.move rfl) rfl rfl rfl ?_
              refine Ops.off rfl rfl ?_
              refine Ops.off rfl rfl ?_
              refine Ops.off rfl rfl ?_
              refine Ops.ex (Ex.pickF rfl rfl) rfl rfl rfl ?_
              refine Ops.ex (Ex.assign rfl) rfl rfl rfl ?_
              refine Ops.nil ?_
              obtain ⟨hD47, hst47⟩ := St.shutD hst25' 2 rfl
              have hst47 : Ht w0 (frz zd25 :: (blk g18 [vi x32] 3) :: ob D25 (.deferred none) :: (blk g23 [.pointer (some ⟨g1, 0, none⟩)] 40) :: (blk g1 [.slice A16 y14.2.wait_.length c16, vi y14.2.lost_] 43) :: (orow 3 1 (.slice A16 y14.2.wait_.length c16) y14.2.wait_.length d16) :: X) _ := hst47
              obtain rfl := Option.some.inj hf
              exact Run.retW [vb false] (Shut.cons hD47 (Shut.nil _)) ⟨rfl, trivial⟩ ⟨zd25, rfl, hm25_1, (St.forget (St.forget (St.forget (St.forget (St.forget hst47 5) 4) 3) 2) 1)⟩
          · replace hf := ifFb hc hf
            refine Ops.off rfl rfl ?_
            refine Ops.off rfl rfl ?_
            refine Ops.ex (Ex.pickF rfl rfl) rfl rfl rfl ?_
            refine Ops.ex (Ex.move rfl) rfl rfl rfl ?_
            refine Ops.off rfl rfl ?_
            refine Ops.off rfl rfl ?_
            refine Ops.off rfl rfl ?_
            refine Ops.ex (Ex.pickF rfl rfl) rfl rfl rfl ?_
            refine Ops.ex (Ex.move rfl) rfl rfl rfl ?_
            refine Ops.off rfl rfl ?_
            refine Ops.off rfl rfl ?_
            refine Ops.ex (Ex.pickF rfl rfl) rfl rfl rfl ?_
            refine Ops.ex (Ex.move rfl) rfl rfl rfl ?_
            refine Ops.off rfl rfl ?_
            refine Ops.off rfl rfl ?_
            refine Ops.off rfl rfl ?_
            refine Ops.ex (Ex.pickF rfl rfl) rfl rfl rfl ?_
            refine Ops.ex (Ex.assign rfl) rfl rfl rfl ?_
            refine Ops.nil ?_
            obtain ⟨hD48, hst48⟩ := St.shutD hst25' 2 rfl
            have hst48 : Ht w0 (frz zd25 :: (blk g18 [vi x32] 3) :: ob D25 (.deferred none) :: (blk g23 [.pointer (some ⟨g1, 0, none⟩)] 40) :: (blk g1 [.slice A16 y14.2.wait_.length c16, vi y14.2.lost_] 43) :: (orow 3 1 (.slice A16 y14.2.wait_.length c16) y14.2.wait_.length d16) :: X) _ := hst48
            obtain rfl := Option.some.inj hf
            exact Run.retW [vb false] (Shut.cons hD48 (Shut.nil _)) ⟨rfl, trivial⟩ ⟨zd25, rfl, hm25_1, (St.forget (St.forget (St.forget (St.forget (St.forget hst48 5) 4) 3) 2) 1)⟩
        · replace hf := ifF (dec_F hc) hf
          refine Ops.off rfl rfl ?_
          refine Ops.ex (Ex.pickF rfl rfl) rfl rfl rfl ?_
          refine Ops.ex (Ex.move rfl) rfl rfl rfl ?_
          refine Ops.off rfl rfl ?_
          refine Ops.off rfl rfl ?_
          refine Ops.ex (Ex.pickF rfl rfl) rfl rfl rfl ?_
          refine Ops.ex (Ex.move rfl) rfl rfl rfl ?_
          refine Ops.off rfl rfl ?_
          refine Ops.off rfl rfl ?_
          refine Ops.off rfl rfl ?_
          refine Ops.ex (Ex.pickF rfl rfl) rfl rfl rfl ?_
          refine Ops.ex (Ex.move rfl) rfl rfl rfl ?_
          refine Ops.off rfl rfl ?_
          refine Ops.off rfl rfl ?_
          refine Ops.ex (Ex.pickF rfl rfl) rfl rfl rfl ?_
          refine Ops.ex (Ex.move rfl) rfl rfl rfl ?_
          refine Ops.off rfl rfl ?_
          refine Ops.off rfl rfl ?_
          refine Ops.off rfl rfl ?_
          refine Ops.ex (Ex.pickF rfl rfl) rfl rfl rfl ?_
          refine Ops.ex (Ex.assign rfl) rfl rfl rfl ?_
          refine Ops.nil ?_
          obtain ⟨hD49, hst49⟩ := St.shutD hst25' 2 rfl
          have hst49 : Ht w0 (frz zd25 :: (blk g18 [vi x32] 3) :: ob D25 (.deferred none) :: (blk g23 [.pointer (some ⟨g1, 0, none⟩)] 40) :: (blk g1 [.slice A16 y14.2.wait_.length c16, vi y14.2.lost_] 43) :: (orow 3 1 (.slice A16 y14.2.wait_.length c16) y14.2.wait_.length d16) :: X) _ := hst49
          obtain rfl := Option.some.inj hf
          exact Run.retW [vb false] (Shut.cons hD49 (Shut.nil _)) ⟨rfl, trivial⟩ ⟨zd25, rfl, hm25_1, (St.forget (St.forget (St.forget (St.forget (St.forget hst49 5) 4) 3) 2) 1)⟩
      · replace hf := ifFb hc hf
        refine Ops.off rfl rfl ?_
        refine Ops.off rfl rfl ?_
        refine Ops.ex (Ex.pickF rfl rfl) rfl rfl rfl ?_
        refine Ops.ex (Ex.move rfl) rfl rfl rfl ?_
        refine Ops.off rfl rfl ?_
        refine Ops.ex (Ex.pickF rfl rfl) rfl rfl rfl ?_
        refine Ops.ex (Ex.move rfl) rfl rfl rfl ?_
        refine Ops.off rfl rfl ?_
        refine Ops.off rfl rfl ?_
        refine Ops.ex (Ex.pickF rfl rfl) rfl rfl rfl ?_
        refine Ops.ex (Ex.move rfl) rfl rfl rfl ?_
        refine Ops.off rfl rfl ?_
        refine Ops.off rfl rfl ?_
        refine Ops.off rfl rfl ?_
        refine Ops.ex (Ex.pickF rfl rfl) rfl rfl rfl ?_
        refine Ops.ex (Ex.move rfl) rfl rfl rfl ?_
        refine Ops.off rfl rfl ?_
        refine Ops.off rfl rfl ?_
        refine Ops.ex (Ex.pickF rfl rfl) rfl rfl rfl ?_
        refine Ops.ex (Ex.move rfl) rfl rfl rfl ?_
        refine Ops.off rfl rfl ?_
        refine Ops.off rfl rfl ?_
        refine Ops.off rfl rfl ?_
        refine Ops.ex (Ex.pickF rfl rfl) rfl rfl rfl ?_
        refine Ops.ex (Ex.assign rfl) rfl rfl rfl ?_
        refine Ops.nil ?_
        obtain ⟨hD50, hst50⟩ := St.shutD hst25' 2 rfl
        have hst50 : Ht w0 (frz zd25 :: (blk g18 [vi x32] 3) :: ob D25 (.deferred none) :: (blk g23 [.pointer (some ⟨g1, 0, none⟩)] 40) :: (blk g1 [.slice A16 y14.2.wait_.length c16, vi y14.2.lost_] 43) :: (orow 3 1 (.slice A16 y14.2.wait_.length c16) y14.2.wait_.length d16) :: X) _ := hst50
        obtain rfl := Option.some.inj hf
        exact Run.retW [vb false] (Shut.cons hD50 (Shut.nil _)) ⟨rfl, trivial⟩ ⟨zd25, rfl, hm25_1, (St.forget (St.forget (St.forget (St.forget (St.forget hst50 5) 4) 3) 2) 1)⟩
    · rintro z1_ zd25 Hs_ D25 W_ h0 ⟨x32, rfl, hm25_0, hm25_1, rfl⟩ hz12 hzd hst25
      replace f4 := f4.mono (hm25_0.trans hz12)
      replace hm25_0 := hm25_0.trans hz12; replace hm25_1 := hm25_1.trans hz12
      replace f16 := f16.mono hzd
      have hst25' : Ht w0 (frz zd25 :: (blk g18 [vi x32] 3) :: ob D25 (.deferred (some [])) :: (blk g23 [.pointer (some ⟨g1, 0, none⟩)] 40) :: (blk g1 [.slice A16 y14.2.wait_.length c16, vi y14.2.lost_] 43) :: (orow 3 1 (.slice A16 y14.2.wait_.length c16) y14.2.wait_.length d16) :: X) _ := hst25
      try dsimp only at hf
      replace hf := ifF h0 hf
      cases hf
def go_law15_NetScript.j3 (a772 : Int16) (nxb772 : (List Int × Int × List Int) → Option Bool) (l829 : List Int) (l834 : List Int) (x835 : Int) : Option Bool :=
  (apB 8 l834 [a772.toInt]).bind fun l840 => nxb772 (l840, x835, l829)
def go_law15_NetScript.b2 (i772 : Nat) (a772 : Int16) : (List Int × Int × List Int) → (List Int × Int × List Int → Option Bool) → Option Bool :=
  fun (l820, x821, l822) nxb772 => (apB 8 l822 [a772.toInt]).bind fun l829 => if (l820.length : Int) = 64 then ((cutI l820 1 (l820.length : Int)).bind fun l836 => go_law15_NetScript.j3 a772 nxb772 l829 l836 (wr (x821 + 1))) else (go_law15_NetScript.j3 a772 nxb772 l829 l820 x821)
def go_law15_NetScript.j2 (nxb6 : (List Int × Int × List Int × Int) → Option Bool) (l767 : List Int) (x768 : Int) (l769 : List Int) (x770 : Int) : Option Bool :=
  (go_law15_shows (⟨l769, x770⟩ : netNetint) l767 x768).bind fun y898 => if y898 then (nxb6 (l767, x768, l769, x770)) else (some false)
def go_law15_NetScript.j4 (l617 : List Int) (x618 : Int) (a6 : law15Act) (nxb6 : (List Int × Int × List Int × Int) → Option Bool) (y845 : Int × Bool × netNetint) (b853 : Bool) : Option Bool :=
  if b853 then (some false) else (if y845.2.1 then ((go_law15_place a6.At.toInt (l617.length : Int)).bind fun y855 => (atI l617 y855).bind fun y857 => if y857 = y845.1 then ((cutI l617 0 y855).bind fun l862 => (cutI l617 (wr (y855 + 1)) (l617.length : Int)).bind fun l863 => (apB 8 [] l862).bind fun l864 => (apB 8 l864 l863).bind fun l867 => go_law15_NetScript.j2 nxb6 l867 x618 y845.2.2.wait_ y845.2.2.lost_) else (some false)) else (go_law15_NetScript.j2 nxb6 l617 x618 y845.2.2.wait_ y845.2.2.lost_))
def go_law15_NetScript.j1 (l617 : List Int) (x618 : Int) (l619 : List Int) (x620 : Int) (a6 : law15Act) (nxb6 : (List Int × Int × List Int × Int) → Option Bool) (b635 : Bool) : Option Bool :=
  if b635 then ((cutI a6.Row 0 (min (a6.Row.length : Int) 40)).bind fun l771 => forL (go_law15_NetScript.b2) (fun (l820, x821, l822) => (go_net_Net_int_Send (⟨l619, x620⟩ : netNetint) l822).bind fun y841 => go_law15_NetScript.j2 nxb6 l820 x821 y841.wait_ y841.lost_) 0 l771 (l617, x618, [])) else (if a6.Op % 5 = 2 then ((go_net_Net_int_Take (⟨l619, x620⟩ : netNetint) a6.At.toInt).bind fun y845 => if y845.2.1 = (decide (0 < (l617.length : Int))) then (if y845.2.1 then (go_law15_NetScript.j4 l617 x618 a6 nxb6 y845 false) else (go_law15_NetScript.j4 l617 x618 a6 nxb6 y845 (!(decide (y845.1 = 0))))) else (go_law15_NetScript.j4 l617 x618 a6 nxb6 y845 true)) else (if a6.Op % 5 = 3 then ((go_net_Net_int_Drop (⟨l619, x620⟩ : netNetint) a6.At.toInt).bind fun y868 => if y868.1 = (decide (0 < (l617.length : Int))) then (if 0 < (l617.length : Int) then ((go_law15_place a6.At.toInt (l617.length : Int)).bind fun y872 => (cutI l617 0 y872).bind fun l876 => (cutI l617 (wr (y872 + 1)) (l617.length : Int)).bind fun l877 => (apB 8 [] l876).bind fun l878 => (apB 8 l878 l877).bind fun l881 => go_law15_NetScript.j2 nxb6 l881 (wr (x618 + 1)) y868.2.wait_ y868.2.lost_) else (go_law15_NetScript.j2 nxb6 l617 x618 y868.2.wait_ y868.2.lost_)) else (some false)) else ((go_net_Net_int_Twice (⟨l619, x620⟩ : netNetint) a6.At.toInt).bind fun y882 => if y882.1 = (decide (0 < (l617.length : Int))) then (if 0 < (l617.length : Int) then ((go_law15_place a6.At.toInt (l617.length : Int)).bind fun y886 => (atI l617 y886).bind fun y888 => if (l617.length : Int) = 64 then ((cutI l617 1 (l617.length : Int)).bind fun l891 => (apB 8 l891 [y888]).bind fun l894 => go_law15_NetScript.j2 nxb6 l894 (wr (x618 + 1)) y882.2.wait_ y882.2.lost_) else ((apB 8 l617 [y888]).bind fun l896 => go_law15_NetScript.j2 nxb6 l896 x618 y882.2.wait_ y882.2.lost_)) else (go_law15_NetScript.j2 nxb6 l617 x618 y882.2.wait_ y882.2.lost_)) else (some false))))
def go_law15_NetScript.b1 (i6 : Nat) (a6 : law15Act) : (List Int × Int × List Int × Int) → (List Int × Int × List Int × Int → Option Bool) → Option Bool :=
  fun (l617, x618, l619, x620) nxb6 => if a6.Op % 5 = 0 then (go_law15_NetScript.j1 l617 x618 l619 x620 a6 nxb6 (decide (a6.Op % 5 = 0))) else (go_law15_NetScript.j1 l617 x618 l619 x620 a6 nxb6 (decide (a6.Op % 5 = 1)))
def go_law15_NetScript (p0 : List law15Act) : Option Bool :=
  (go_law15_awake).bind fun y2 => if y2 then ((cutI p0 0 (min (p0.length : Int) 100)).bind fun l5 => forL (go_law15_NetScript.b1) (fun (l617, x618, l619, x620) => some true) 0 l5 ([], 0, [], 0)) else (some false)
set_option maxRecDepth 100000 in
set_option maxHeartbeats 4000000 in
theorem go_law15_NetScript.walk {w0 w : World} {X : List Res} {z0 : Zp} {p0 : List law15Act} {A1 : Option Addr} {c1 : Nat} {r : Bool} (hst : Ht w0 (frz z0 :: X) w) (f1 : Sl tlaw15Act z0 A1 c1 p0) (hf : go_law15_NetScript p0 = some r) :
    Calls Try.prog 8 #[.slice A1 p0.length c1] w fun e w' => ∃ (z' : Zp), e = .returned (vb r) ∧ Le z0 z' ∧ Ht w0 (frz z' :: X) w' := by
  refine calls_np Try.func8 rfl rfl ?_
  have hle0 := Le.refl z0
  unfold go_law15_NetScript at hf
  refine Run.seq ?_
  refine Run.region ?_
  refine Ops.ex (Ex.assign rfl) rfl rfl rfl ?_
  refine Ops.nil ?_
  refine Run.seq ?_
  refine Run.seq ?_
  refine Run.region ?_
  obtain ⟨y2, hy2, hf⟩ := bnd hf
  refine Ops.call rfl rfl Try.func17 (by kernel_rfl) (by kernel_rfl) rfl (go_law15_awake.walk (hst := hst) (hf := hy2)) ?_
  rintro _ w2 ⟨z2, rfl, hz2, hst2⟩
  refine ⟨_, rfl, ?_⟩
  replace f1 := f1.mono hz2
  replace hle0 := hle0.trans hz2
  refine Ops.ex (Ex.not rfl) rfl rfl rfl ?_
  refine Ops.nil ?_
  refine Run.cond rfl (fun hc => ?_) (fun hc => ?_)
  · replace hf := ifFb (bn_T hc) hf
    refine Run.seq ?_
    refine Run.region ?_
    refine Ops.ex (Ex.assign rfl) rfl rfl rfl ?_
    refine Ops.nil ?_
    obtain rfl := Option.some.inj hf
    exact Run.retV [vb false] rfl ⟨rfl, trivial⟩ ⟨z2, rfl, hle0, hst2⟩
  · replace hf := ifTb (bn_F hc) hf
    refine Run.skip ?_
    refine Run.seq ?_
    refine Run.region ?_
    refine Ops.ex (Ex.build [.slice none 0 0, vi 0] rfl Try.underlying43 zr43 (pl43 Try.underlying43) (by kernel_rfl)) rfl rfl rfl ?_
    refine Ops.boxF [.slice none 0 0, vi 0] hst2 rfl rfl rfl (fun g4 w4 hst4 => ?_)
    refine Ops.ex (Ex.assign rfl) rfl rfl rfl ?_
    refine Ops.nil ?_
    refine Run.seq ?_
    refine Run.region ?_
    refine Ops.ex (Ex.assign rfl) rfl rfl rfl ?_
    refine Ops.nil ?_
    refine Run.seq ?_
    refine Run.region ?_
    refine Ops.ex (Ex.assign rfl) rfl rfl rfl ?_
    refine Ops.nil ?_
    refine Run.seq ?_
    refine Run.seq ?_
    refine Run.region ?_
    refine Ops.ex (Ex.move rfl) rfl rfl rfl ?_
    refine Ops.ex (Ex.move rfl) rfl rfl rfl ?_
    refine Ops.ex (Ex.len' rfl rfl rfl Try.underlying39) rfl rfl rfl ?_
    refine Ops.ex (Ex.min2 rfl rfl rfl) rfl rfl rfl ?_
    obtain ⟨l5, hy5, hf⟩ := bnd hf
    obtain ⟨A5, c5, hA5, hB5, f5⟩ := SlH.sub f1.toH hy5
    replace f5 := f5.toS
    refine Ops.ex (Ex.subA hA5 hB5 hy5 rfl rfl Try.underlying39 sz47 rfl rfl) rfl rfl rfl ?_
    refine Ops.ex (Ex.len' rfl rfl rfl Try.underlying39) rfl rfl rfl ?_
    refine Ops.ex (Ex.move rfl) rfl rfl rfl ?_
    refine Ops.nil ?_
    refine Run.block ?_
    have hc6 := f5.cap
    have hm7 := Le.refl z2
    have hst621 := hst4.row0 3 1
    have hst623 := hst621.row0 3 1
    refine Run.sub (e' := [(3, .pointer (some ⟨g4, 0, none⟩)), (4, .slice none 0 0), (5, vi 0), (24, .slice A5 l5.length c5), (25, vi (l5.length : Int)), (26, vi ((0 : Nat) : Int))]) (subB_spec ⟨rfl, rfl, rfl, rfl, rfl, rfl, trivial⟩) ?_
    refine Run.loop (fun mb6 => (fun e' w' => ∃ (i6 : Nat) (l617 : List Int) (x618 : Int) (l619 : List Int) (x620 : Int) (A617 : Option Addr) (c617 : Nat) (d617 : List Value) (A619 : Option Addr) (c619 : Nat) (d619 : List Value) (z616 : Zp), mb6 = l5.length - i6 ∧ i6 ≤ l5.length ∧ forL (go_law15_NetScript.b1) (fun (l617, x618, l619, x620) => some true) i6 (l5.drop i6) (l617, x618, l619, x620) = some r ∧ e' = [(3, .pointer (some ⟨g4, 0, none⟩)), (4, .slice A617 l617.length c617), (5, vi x618), (24, .slice A5 l5.length c5), (25, vi (l5.length : Int)), (26, vi (i6 : Int))] ∧ Le z2 z616 ∧ Le z0 z616 ∧ Cs tI z616 d617 l617 ∧ Cs tI z616 d619 l619 ∧ Ht w0 (frz z616 :: (orow 3 1 (.slice A617 l617.length c617) l617.length d617) :: (orow 3 1 (.slice A619 l619.length c619) l619.length d619) :: (blk g4 [.slice A619 l619.length c619, vi x620] 43) :: X) w')) l5.length ⟨0, [], 0, [], 0, none, 0, [], none, 0, [], z2, rfl, Nat.zero_le _, hf, rfl, hm7, hle0, (Cs.nil _ _), (Cs.nil _ _), (St.up (St.up (St.up (St.up hst623 3 rfl) 2 rfl) 3 rfl) 3 rfl)⟩ ?_
    rintro _ e' w625 ⟨i6, l617, x618, l619, x620, A617, c617, d617, A619, c619, d619, z616, rfl, hi6, hf, rfl, hz625, hy625_0, f617, f619, hst625⟩
    replace f5 := f5.mono hz625
    refine Run.seq ?_
    refine Run.region ?_
    refine Ops.ex (Ex.lss rfl rfl) rfl rfl rfl ?_
    refine Ops.nil ?_
    refine Run.seq ?_
    refine Run.cond rfl (fun hc => ?_) (fun hc => ?_)
    · have hl6 := lt_of_dec hc
      obtain ⟨a6, nxb6, ha6, hnxb6, hf⟩ := forL_in hf hl6
      unfold go_law15_NetScript.b1 at hf
      try dsimp only at hf
      refine Run.skip ?_
      refine Run.seq ?_
      refine Run.block ?_
      refine Run.seq ?_
      refine Run.region ?_
      obtain ⟨g629, p629, o629, cs629, hA629, ho629, hr629, f629⟩ := SlH.elem f5.toH (atI_nat ha6)
      obtain ⟨A628, c628, rfl, f628⟩ := hr629
      refine Ops.ex (Ex.ixA hA629 ho629 (atI_nat ha6) rfl rfl rfl Try.underlying39 sz47) rfl rfl rfl ?_
      refine Ops.loadAgg [vu8 a6.Op, vi16 a6.At, .slice A628 a6.Row.length c628] rfl Try.underlying47 rfl sz47 rfl (cells_of_zc rfl (f629.mono hst625.le)) rfl ?_
      refine Ops.allocF [vu8 0, vi16 0, .slice none 0 0] hst625 zr47 rfl rfl (fun g630 w630 hst630 => ?_)
      refine Ops.store 1 [vu8 a6.Op, vi16 a6.At, .slice A628 a6.Row.length c628] hst630 rfl rfl rfl rfl sz47 rfl (by simp [Value.oneCell']) (by simp) (fun w631 hst631 => ?_)
      refine Ops.nil ?_
      refine Run.seq ?_
      refine Run.seq ?_
      refine Run.region ?_
      refine Ops.ex (Ex.fieldAddr rfl Try.underlying47 rfl sz5) rfl rfl rfl ?_
      refine Ops.load rfl Try.underlying5 rfl (hst631.cell (i := 1) rfl rfl) rfl ?_
      refine Ops.ex (Ex.rem8 (a := a6.Op) (b := 5) rfl rfl (by decide)) rfl rfl rfl ?_
      refine Ops.nil ?_
      refine Run.block ?_
      refine Run.seq ?_
      refine Run.seq ?_
      refine Run.region ?_
      refine Ops.ex (Ex.eql8 (a := (a6.Op % 5)) (b := 0) rfl rfl) rfl rfl rfl ?_
      refine Ops.ex (Ex.assign rfl) rfl rfl rfl ?_
      refine Ops.nil ?_
      have hm633 := Le.refl z616
      apply Run.jn (fun e' w' => ∃ (b635 : Bool) (z634 : Zp), go_law15_NetScript.j1 l617 x618 l619 x620 a6 nxb6 b635 = some r ∧ e' = [(3, .pointer (some ⟨g4, 0, none⟩)), (4, .slice A617 l617.length c617), (5, vi x618), (7, .pointer (some ⟨g630, 0, none⟩)), (24, .slice A5 l5.length c5), (25, vi (l5.length : Int)), (26, vi (i6 : Int)), (32, vu8 (a6.Op % 5)), (65, vb b635)] ∧ Le z616 z634 ∧ Le z0 z634 ∧ Le z2 z634 ∧ Ht w0 (frz z634 :: (blk g630 [vu8 a6.Op, vi16 a6.At, .slice A628 a6.Row.length c628] 47) :: (orow 3 1 (.slice A617 l617.length c617) l617.length d617) :: (orow 3 1 (.slice A619 l619.length c619) l619.length d619) :: (blk g4 [.slice A619 l619.length c619, vi x620] 43) :: X) w')
      · intro hj632
        refine Run.cond rfl (fun hc => ?_) (fun hc => ?_)
        · replace hf := ifT (dec_T hc) hf
          refine Run.skip ?_
          exact Run.sub (by exact subB_spec ⟨rfl, rfl, rfl, rfl, rfl, rfl, rfl, rfl, rfl, trivial⟩) (hj632 _ _ ⟨decide (a6.Op % 5 = 0), z616, hf, rfl, hm633, hy625_0, hz625, hst631⟩)
        · replace hf := ifF (dec_F hc) hf
          refine Run.region ?_
          refine Ops.ex (Ex.eql8 (a := (a6.Op % 5)) (b := 1) rfl rfl) rfl rfl rfl ?_
          refine Ops.ex (Ex.assign rfl) rfl rfl rfl ?_
          refine Ops.nil ?_
          exact Run.sub (by exact subB_spec ⟨rfl, rfl, rfl, rfl, rfl, rfl, rfl, rfl, rfl, trivial⟩) (hj632 _ _ ⟨decide (a6.Op % 5 = 1), z616, hf, rfl, hm633, hy625_0, hz625, hst631⟩)
      · rintro e' w636 ⟨b635, z634, hf, rfl, hz636, hy636_0, hy636_1, hst636⟩
        replace f5 := f5.mono hz636; replace f628 := f628.mono hz636; replace f617 := f617.mono hz636; replace f619 := f619.mono hz636
        unfold go_law15_NetScript.j1 at hf
        have hm765 := Le.refl z634
        apply Run.jn (fun e' w' => ∃ (l767 : List Int) (x768 : Int) (l769 : List Int) (x770 : Int) (A767 : Option Addr) (c767 : Nat) (d767 : List Value) (A769 : Option Addr) (c769 : Nat) (d769 : List Value) (z766 : Zp), go_law15_NetScript.j2 nxb6 l767 x768 l769 x770 = some r ∧ e' = [(3, .pointer (some ⟨g4, 0, none⟩)), (4, .slice A767 l767.length c767), (5, vi x768), (24, .slice A5 l5.length c5), (25, vi (l5.length : Int)), (26, vi (i6 : Int))] ∧ Le z634 z766 ∧ Le z0 z766 ∧ Le z2 z766 ∧ Le z616 z766 ∧ Cs tI z766 d767 l767 ∧ Cs tI z766 d769 l769 ∧ Ht w0 (frz z766 :: (orow 3 1 (.slice A767 l767.length c767) l767.length d767) :: (orow 3 1 (.slice A769 l769.length c769) l769.length d769) :: (blk g4 [.slice A769 l769.length c769, vi x770] 43) :: X) w')
        · intro hj637
          refine Run.cond rfl (fun hc => ?_) (fun hc => ?_)
          · replace hf := ifTb hc hf
            refine Run.seq ?_
            refine Run.region ?_
            refine Ops.ex (Ex.assign rfl) rfl rfl rfl ?_
            refine Ops.nil ?_
            refine Run.seq ?_
            refine Run.seq ?_
            refine Run.region ?_
            refine Ops.ex (Ex.fieldAddr rfl Try.underlying47 rfl sz45) rfl rfl rfl ?_
            refine Ops.load rfl Try.underlying45 rfl (hst636.cell (i := 1) rfl rfl) rfl ?_
            refine Ops.ex (Ex.fieldAddr rfl Try.underlying47 rfl sz45) rfl rfl rfl ?_
            refine Ops.load rfl Try.underlying45 rfl (hst636.cell (i := 1) rfl rfl) rfl ?_
            refine Ops.ex (Ex.len' rfl rfl rfl Try.underlying45) rfl rfl rfl ?_
            refine Ops.ex (Ex.min2 rfl rfl rfl) rfl rfl rfl ?_
            obtain ⟨l771, hy771, hf⟩ := bnd hf
            obtain ⟨A771, c771, hA771, hB771, f771⟩ := SlH.sub f628.toH hy771
            replace f771 := f771.toS
            refine Ops.ex (Ex.subA hA771 hB771 hy771 rfl rfl Try.underlying45 sz44 rfl rfl) rfl rfl rfl ?_
            refine Ops.ex (Ex.len' rfl rfl rfl Try.underlying45) rfl rfl rfl ?_
            refine Ops.ex (Ex.move rfl) rfl rfl rfl ?_
            refine Ops.nil ?_
            refine Run.block ?_
            have hc772 := f771.cap
            have hst823 := hst636.row0 3 1
            refine Run.sub (e' := [(3, .pointer (some ⟨g4, 0, none⟩)), (4, .slice A617 l617.length c617), (5, vi x618), (8, .slice none 0 0), (24, .slice A5 l5.length c5), (25, vi (l5.length : Int)), (26, vi (i6 : Int)), (74, .slice A771 l771.length c771), (75, vi (l771.length : Int)), (76, vi ((0 : Nat) : Int))]) (subB_spec ⟨rfl, rfl, rfl, rfl, rfl, rfl, rfl, rfl, rfl, rfl, trivial⟩) ?_
            refine Run.loop (fun mb772 => (fun e' w' => ∃ (i772 : Nat) (l820 : List Int) (x821 : Int) (l822 : List Int) (A820 : Option Addr) (c820 : Nat) (d820 : List Value) (A822 : Option Addr) (c822 : Nat) (d822 : List Value) (z819 : Zp), mb772 = l771.length - i772 ∧ i772 ≤ l771.length ∧ forL (go_law15_NetScript.b2) (fun (l820, x821, l822) => (go_net_Net_int_Send (⟨l619, x620⟩ : netNetint) l822).bind fun y841 => go_law15_NetScript.j2 nxb6 l820 x821 y841.wait_ y841.lost_) i772 (l771.drop i772) (l820, x821, l822) = some r ∧ e' = [(3, .pointer (some ⟨g4, 0, none⟩)), (4, .slice A820 l820.length c820), (5, vi x821), (8, .slice A822 l822.length c822), (24, .slice A5 l5.length c5), (25, vi (l5.length : Int)), (26, vi (i6 : Int)), (74, .slice A771 l771.length c771), (75, vi (l771.length : Int)), (76, vi (i772 : Int))] ∧ Le z634 z819 ∧ Le z0 z819 ∧ Le z2 z819 ∧ Le z616 z819 ∧ Cs tI z819 d820 l820 ∧ Cs tI z819 d822 l822 ∧ Ht w0 (frz z819 :: (orow 3 1 (.slice A820 l820.length c820) l820.length d820) :: (orow 3 1 (.slice A822 l822.length c822) l822.length d822) :: (orow 3 1 (.slice A619 l619.length c619) l619.length d619) :: (blk g4 [.slice A619 l619.length c619, vi x620] 43) :: X) w')) l771.length ⟨0, l617, x618, [], A617, c617, d617, none, 0, [], z634, rfl, Nat.zero_le _, hf, rfl, hm765, hy636_0, hy636_1, hz636, f617, (Cs.nil _ _), (St.up (St.up (St.up (St.up (St.up (St.forget hst823 2) 4 rfl) 4 rfl) 3 rfl) 4 rfl) 4 rfl)⟩ ?_
            rintro _ e' w825 ⟨i772, l820, x821, l822, A820, c820, d820, A822, c822, d822, z819, rfl, hi772, hf, rfl, hz825, hy825_0, hy825_1, hy825_2, f820, f822, hst825⟩
            replace f5 := f5.mono hz825; replace f771 := f771.mono hz825; replace f619 := f619.mono hz825
            refine Run.seq ?_
            refine Run.region ?_
            refine Ops.ex (Ex.lss rfl rfl) rfl rfl rfl ?_
            refine Ops.nil ?_
            refine Run.seq ?_
            refine Run.cond rfl (fun hc => ?_) (fun hc => ?_)
            · have hl772 := lt_of_dec hc
              obtain ⟨a772, nxb772, ha772, hnxb772, hf⟩ := forL_in hf hl772
              unfold go_law15_NetScript.b2 at hf
              try dsimp only at hf
              refine Run.skip ?_
              refine Run.seq ?_
              refine Run.block ?_
              refine Run.seq ?_
              refine Run.region ?_
              obtain ⟨g827, p827, o827, cs827, hA827, ho827, hr827, f827⟩ := SlH.elem f771.toH (atI_nat ha772)
              obtain rfl := hr827
              refine Ops.ex (Ex.ixA hA827 ho827 (atI_nat ha772) rfl rfl rfl Try.underlying45 sz44) rfl rfl rfl ?_
              refine Ops.load rfl Try.underlying44 rfl ((f827.mono hst825.le) 0 _ rfl) rfl ?_
              refine Ops.ex (Ex.assign rfl) rfl rfl rfl ?_
              refine Ops.nil ?_
              refine Run.seq ?_
              refine Run.region ?_
              refine Ops.ex (Ex.move rfl) rfl rfl rfl ?_
              refine Ops.ex (Ex.move rfl) rfl rfl rfl ?_
              refine Ops.ex (Ex.ci16 rfl Try.underlying44 Try.underlying3) rfl rfl rfl ?_
              refine Ops.sliceF [vi a772.toInt] hst825 rfl Try.underlying41 sz3 zr3 rfl rfl (by kernel_rfl) rfl (by simp [Value.oneCell']) rfl (fun A828 w828 hst828 => ?_)
              have f828 : Cs tI z819 [vi a772.toInt] [a772.toInt] := (Cs.cons (c := [vi a772.toInt]) rfl (Cs.nil _ _))
              obtain ⟨l829, hy829, hf⟩ := bnd hf
              refine Ops.app 3 hst828 rfl f822 rfl (own_slh f828 rfl (hst828.get (i := 1) rfl)) rfl hy829 rfl rfl rfl rfl Try.underlying41 inf3 rfl (by decide) (by decide) rfl (fun A829 c829 d829 w829 f829 hst829 => ?_)
              refine Ops.ex (Ex.assign rfl) rfl rfl rfl ?_
              refine Ops.nil ?_
              refine Run.seq ?_
              refine Run.seq ?_
              refine Run.region ?_
              refine Ops.ex (Ex.move rfl) rfl rfl rfl ?_
              refine Ops.ex (Ex.len' rfl rfl rfl Try.underlying41) rfl rfl rfl ?_
              refine Ops.ex (Ex.eqlI rfl rfl) rfl rfl rfl ?_
              refine Ops.nil ?_
              have hm832 := Le.refl z819
              apply Run.jn (fun e' w' => ∃ (l834 : List Int) (x835 : Int) (A834 : Option Addr) (c834 : Nat) (d834 : List Value) (z833 : Zp), go_law15_NetScript.j3 a772 nxb772 l829 l834 x835 = some r ∧ e' = [(3, .pointer (some ⟨g4, 0, none⟩)), (4, .slice A834 l834.length c834), (5, vi x835), (8, .slice A829 l829.length c829), (10, vi16 a772), (24, .slice A5 l5.length c5), (25, vi (l5.length : Int)), (26, vi (i6 : Int)), (74, .slice A771 l771.length c771), (75, vi (l771.length : Int)), (76, vi (i772 : Int))] ∧ Le z819 z833 ∧ Le z0 z833 ∧ Le z2 z833 ∧ Le z616 z833 ∧ Le z634 z833 ∧ Cs tI z833 d834 l834 ∧ Ht w0 (frz z833 :: (orow 3 1 (.slice A834 l834.length c834) l834.length d834) :: (orow 3 1 (.slice A829 l829.length c829) l829.length d829) :: (orow 3 1 (.slice A619 l619.length c619) l619.length d619) :: (blk g4 [.slice A619 l619.length c619, vi x620] 43) :: X) w')
              · intro hj830
                refine Run.cond rfl (fun hc => ?_) (fun hc => ?_)
                · replace hf := ifT (dec_T hc) hf
                  refine Run.region ?_
                  refine Ops.ex (Ex.move rfl) rfl rfl rfl ?_
                  obtain ⟨l836, hy836, hf⟩ := bnd hf
                  obtain ⟨A836, c836, hA836, hB836, f836⟩ := own_sub f820 rfl (hst829.get (i := 2) rfl) hy836
                  refine Ops.ex (Ex.subA hA836 hB836 hy836 rfl rfl Try.underlying41 sz3 rfl rfl) rfl rfl rfl ?_
                  refine Ops.ex (Ex.move rfl) rfl rfl rfl ?_
                  refine Ops.ex (Ex.add rfl rfl) rfl rfl rfl ?_
                  refine Ops.ex (Ex.assign rfl) rfl rfl rfl ?_
                  refine Ops.ex (Ex.assign rfl) rfl rfl rfl ?_
                  refine Ops.nil ?_
                  obtain ⟨f837, hst837⟩ := St.dropRow 2 hst829 rfl f820 rfl hA836 hB836 hy836 rfl
                  replace hst837 : Ht w0 (frz z819 :: (orow 3 1 (.slice A828 [a772.toInt].length 1) [a772.toInt].length [vi a772.toInt]) :: (orow 3 1 (.slice A836 l836.length c836) l836.length (List.drop ((1 : Int).toNat * 1) d820)) :: (orow 3 1 (.slice A829 l829.length c829) l829.length d829) :: (orow 3 1 (.slice A619 l619.length c619) l619.length d619) :: (blk g4 [.slice A619 l619.length c619, vi x620] 43) :: X) _ := hst837
                  exact Run.sub (by exact subB_spec ⟨rfl, rfl, rfl, rfl, rfl, rfl, rfl, rfl, rfl, rfl, rfl, trivial⟩) (hj830 _ _ ⟨l836, wr (x821 + 1), A836, c836, (List.drop ((1 : Int).toNat * 1) d820), z819, hf, rfl, hm832, hy825_0, hy825_1, hy825_2, hz825, f837, (St.forget hst837 1)⟩)
                · replace hf := ifF (dec_F hc) hf
                  refine Run.skip ?_
                  exact Run.sub (by exact subB_spec ⟨rfl, rfl, rfl, rfl, rfl, rfl, rfl, rfl, rfl, rfl, rfl, trivial⟩) (hj830 _ _ ⟨l820, x821, A820, c820, d820, z819, hf, rfl, hm832, hy825_0, hy825_1, hy825_2, hz825, f820, (St.forget hst829 1)⟩)
              · rintro e' w838 ⟨l834, x835, A834, c834, d834, z833, hf, rfl, hz838, hy838_0, hy838_1, hy838_2, hy838_3, f834, hst838⟩
                replace f5 := f5.mono hz838; replace f771 := f771.mono hz838; replace f829 := f829.mono hz838; replace f619 := f619.mono hz838
                unfold go_law15_NetScript.j3 at hf
                refine Run.region ?_
                refine Ops.ex (Ex.move rfl) rfl rfl rfl ?_
                refine Ops.ex (Ex.move rfl) rfl rfl rfl ?_
                refine Ops.ex (Ex.ci16 rfl Try.underlying44 Try.underlying3) rfl rfl rfl ?_
                refine Ops.sliceF [vi a772.toInt] hst838 rfl Try.underlying41 sz3 zr3 rfl rfl (by kernel_rfl) rfl (by simp [Value.oneCell']) rfl (fun A839 w839 hst839 => ?_)
                have f839 : Cs tI z833 [vi a772.toInt] [a772.toInt] := (Cs.cons (c := [vi a772.toInt]) rfl (Cs.nil _ _))
                obtain ⟨l840, hy840, hf⟩ := bnd hf
                refine Ops.app 2 hst839 rfl f834 rfl (own_slh f839 rfl (hst839.get (i := 1) rfl)) rfl hy840 rfl rfl rfl rfl Try.underlying41 inf3 rfl (by decide) (by decide) rfl (fun A840 c840 d840 w840 f840 hst840 => ?_)
                refine Ops.ex (Ex.assign rfl) rfl rfl rfl ?_
                refine Ops.nil ?_
                refine Run.endBlk ?_
                refine Run.region ?_
                refine Ops.ex (Ex.add rfl rfl) rfl rfl rfl ?_
                refine Ops.ex (Ex.move rfl) rfl rfl rfl ?_
                refine Ops.nil ?_
                refine Run.re 76 rfl (congrArg vi (wr_succ' hl772 hc772)) ?_
                exact Run.sub (by exact subB_spec ⟨rfl, rfl, rfl, rfl, rfl, rfl, rfl, rfl, rfl, rfl, trivial⟩) (Run.stop ⟨l771.length - (i772 + 1), by omega, i772 + 1, l840, x835, l829, A840, c840, d840, A829, c829, d829, z833, rfl, by omega, (hnxb772 _).symm.trans hf, rfl, hy838_3, hy838_0, hy838_1, hy838_2, f840, f829, (St.forget hst840 1)⟩)
            · replace hf := forL_out hf (nlt_of_dec hc)
              try dsimp only at hf
              refine Run.exit _ rfl ?_
              refine Run.region ?_
              refine Ops.ex (Ex.move rfl) rfl rfl rfl ?_
              refine Ops.ex (Ex.move rfl) rfl rfl rfl ?_
              obtain ⟨z842, hz842, f842, hst842⟩ := St.freeze (τ := tI) (xs := l822) (St.up (St.up (St.up (St.up (St.up hst825 4 rfl) 4 rfl) 3 rfl) 4 rfl) 4 rfl) f822 rfl
              replace f5 := f5.mono hz842; replace f771 := f771.mono hz842; replace f820 := f820.mono hz842; replace f619 := f619.mono hz842
              replace hy825_0 := hy825_0.trans hz842
              replace hy825_1 := hy825_1.trans hz842
              replace hy825_2 := hy825_2.trans hz842
              replace hz825 := hz825.trans hz842
              obtain ⟨y841, hy841, hf⟩ := bnd hf
              refine Ops.call rfl rfl Try.func18 (by kernel_rfl) (by kernel_rfl) rfl (go_net_Net_int_Send.walk (p0 := (⟨l619, x620⟩ : netNetint)) (p1 := l822) (hst := (St.up (St.up (St.up (St.up hst842 1 rfl) 2 rfl) 3 rfl) 3 rfl)) (f1 := f619) (f3 := f842) (hf := hy841)) ?_
              rintro _ w841 ⟨z841, A843, c843, d843, rfl, hz841, f843, hst841⟩
              refine ⟨_, rfl, ?_⟩
              replace f842 := f842.mono hz841; replace f5 := f5.mono hz841; replace f771 := f771.mono hz841; replace f820 := f820.mono hz841
              replace hy825_0 := hy825_0.trans hz841
              replace hy825_1 := hy825_1.trans hz841
              replace hy825_2 := hy825_2.trans hz841
              replace hz825 := hz825.trans hz841
              refine Ops.nil ?_
              exact Run.sub (by exact subB_spec ⟨rfl, rfl, rfl, rfl, rfl, rfl, trivial⟩) (hj637 _ _ ⟨l820, x821, y841.wait_, y841.lost_, A820, c820, d820, A843, c843, d843, z841, hf, rfl, hz825, hy825_0, hy825_1, hy825_2, f820, f843, (St.up (St.up (St.up (St.up hst841 1 rfl) 2 rfl) 3 rfl) 3 rfl)⟩)
          · replace hf := ifFb hc hf
            refine Run.seq ?_
            refine Run.region ?_
            refine Ops.ex (Ex.eql8 (a := (a6.Op % 5)) (b := 2) rfl rfl) rfl rfl rfl ?_
            refine Ops.ex (Ex.assign rfl) rfl rfl rfl ?_
            refine Ops.nil ?_
            refine Run.cond rfl (fun hc => ?_) (fun hc => ?_)
            · replace hf := ifT (dec_T hc) hf
              refine Run.seq ?_
              refine Run.region ?_
              refine Ops.ex (Ex.move rfl) rfl rfl rfl ?_
              refine Ops.ex (Ex.fieldAddr rfl Try.underlying47 rfl sz44) rfl rfl rfl ?_
              refine Ops.load rfl Try.underlying44 rfl (hst636.cell (i := 1) rfl rfl) rfl ?_
              refine Ops.ex (Ex.ci16 rfl Try.underlying44 Try.underlying3) rfl rfl rfl ?_
              obtain ⟨y845, hy845, hf⟩ := bnd hf
              refine Ops.call rfl rfl Try.func19 (by kernel_rfl) (by kernel_rfl) rfl (go_net_Net_int_Take.walk (p0 := (⟨l619, x620⟩ : netNetint)) (p1 := a6.At.toInt) (hst := (St.up (St.up (St.up (St.up (St.up hst636 2 rfl) 2 rfl) 3 rfl) 4 rfl) 4 rfl)) (f1 := f619) (hf := hy845)) ?_
              rintro _ w845 ⟨z845, A848, c848, d848, rfl, hz845, f848, hst845⟩
              refine ⟨_, rfl, ?_⟩
              replace f5 := f5.mono hz845; replace f628 := f628.mono hz845; replace f617 := f617.mono hz845
              replace hy636_0 := hy636_0.trans hz845
              replace hy636_1 := hy636_1.trans hz845
              replace hz636 := hz636.trans hz845
              replace hm765 := hm765.trans hz845
              refine Ops.ex (Ex.move rfl) rfl rfl rfl ?_
              refine Ops.ex (Ex.extract rfl rfl) rfl rfl rfl ?_
              refine Ops.ex (Ex.extract rfl rfl) rfl rfl rfl ?_
              refine Ops.ex (Ex.assign rfl) rfl rfl rfl ?_
              refine Ops.ex (Ex.assign rfl) rfl rfl rfl ?_
              refine Ops.nil ?_
              refine Run.seq ?_
              refine Run.seq ?_
              have hm851 := Le.refl z845
              apply Run.jn (fun e' w' => ∃ (b853 : Bool) (z852 : Zp), go_law15_NetScript.j4 l617 x618 a6 nxb6 y845 b853 = some r ∧ e' = [(3, .pointer (some ⟨g4, 0, none⟩)), (4, .slice A617 l617.length c617), (5, vi x618), (7, .pointer (some ⟨g630, 0, none⟩)), (11, vi y845.1), (12, vb y845.2.1), (24, .slice A5 l5.length c5), (25, vi (l5.length : Int)), (26, vi (i6 : Int)), (123, vb b853)] ∧ Le z845 z852 ∧ Le z0 z852 ∧ Le z2 z852 ∧ Le z616 z852 ∧ Le z634 z852 ∧ Ht w0 (frz z852 :: (blk g4 [.slice A848 y845.2.2.wait_.length c848, vi y845.2.2.lost_] 43) :: (orow 3 1 (.slice A848 y845.2.2.wait_.length c848) y845.2.2.wait_.length d848) :: (blk g630 [vu8 a6.Op, vi16 a6.At, .slice A628 a6.Row.length c628] 47) :: (orow 3 1 (.slice A617 l617.length c617) l617.length d617) :: X) w')
              · intro hj850
                refine Run.region ?_
                refine Ops.ex (Ex.move rfl) rfl rfl rfl ?_
                refine Ops.ex (Ex.move rfl) rfl rfl rfl ?_
                refine Ops.ex (Ex.len' rfl rfl rfl Try.underlying41) rfl rfl rfl ?_
                refine Ops.ex (Ex.gtr rfl rfl) rfl rfl rfl ?_
                refine Ops.ex (Ex.neqBo rfl rfl Try.underlying4) rfl rfl rfl ?_
                refine Ops.ex (Ex.move rfl) rfl rfl rfl ?_
                refine Ops.case 116 rfl (fun hc => ?_) (fun hc => ?_)
                · replace hf := ifF (neq_T hc) hf
                  refine Ops.off rfl rfl ?_
                  refine Ops.off rfl rfl ?_
                  refine Ops.off rfl rfl ?_
                  refine Ops.offU rfl rfl ?_
                  refine Ops.offU rfl rfl ?_
                  refine Ops.off rfl rfl ?_
                  refine Ops.ex (Ex.pickT rfl rfl) rfl rfl rfl ?_
                  refine Ops.nil ?_
                  exact Run.sub (by exact subB_spec ⟨rfl, rfl, rfl, rfl, rfl, rfl, rfl, rfl, rfl, rfl, trivial⟩) (hj850 _ _ ⟨true, z845, hf, rfl, hm851, hy636_0, hy636_1, hz636, hm765, hst845⟩)
                · replace hf := ifT (neq_F hc) hf
                  refine Ops.on rfl ?_
                  refine Ops.ex (Ex.move rfl) rfl rfl rfl ?_
                  refine Ops.on rfl ?_
                  refine Ops.ex (Ex.not rfl) rfl rfl rfl ?_
                  refine Ops.on rfl ?_
                  refine Ops.ex (Ex.move rfl) rfl rfl rfl ?_
                  refine Ops.case 119 rfl (fun hc => ?_) (fun hc => ?_)
                  · replace hf := ifFb (bn_T hc) hf
                    refine Ops.on rfl ?_
                    refine Ops.ex (Ex.move rfl) rfl rfl rfl ?_
                    refine Ops.on rfl ?_
                    refine Ops.ex (Ex.neqI rfl rfl) rfl rfl rfl ?_
                    refine Ops.on rfl ?_
                    refine Ops.ex (Ex.pickT rfl rfl) rfl rfl rfl ?_
                    refine Ops.ex (Ex.pickF rfl rfl) rfl rfl rfl ?_
                    refine Ops.nil ?_
                    exact Run.sub (by exact subB_spec ⟨rfl, rfl, rfl, rfl, rfl, rfl, rfl, rfl, rfl, rfl, trivial⟩) (hj850 _ _ ⟨!(decide (y845.1 = 0)), z845, hf, rfl, hm851, hy636_0, hy636_1, hz636, hm765, hst845⟩)
                  · replace hf := ifTb (bn_F hc) hf
                    refine Ops.off rfl rfl ?_
                    refine Ops.off rfl rfl ?_
                    refine Ops.on rfl ?_
                    refine Ops.ex (Ex.pickF rfl rfl) rfl rfl rfl ?_
                    refine Ops.ex (Ex.pickF rfl rfl) rfl rfl rfl ?_
                    refine Ops.nil ?_
                    exact Run.sub (by exact subB_spec ⟨rfl, rfl, rfl, rfl, rfl, rfl, rfl, rfl, rfl, rfl, trivial⟩) (hj850 _ _ ⟨false, z845, hf, rfl, hm851, hy636_0, hy636_1, hz636, hm765, hst845⟩)
              · rintro e' w854 ⟨b853, z852, hf, rfl, hz854, hy854_0, hy854_1, hy854_2, hy854_3, hst854⟩
                replace f5 := f5.mono hz854; replace f848 := f848.mono hz854; replace f628 := f628.mono hz854; replace f617 := f617.mono hz854
                unfold go_law15_NetScript.j4 at hf
                refine Run.cond rfl (fun hc => ?_) (fun hc => ?_)
                · replace hf := ifTb hc hf
                  refine Run.seq ?_
                  refine Run.region ?_
                  refine Ops.ex (Ex.assign rfl) rfl rfl rfl ?_
                  refine Ops.nil ?_
                  obtain rfl := Option.some.inj hf
                  exact Run.retV [vb false] rfl ⟨rfl, trivial⟩ ⟨z852, rfl, hy854_0, (St.forget (St.forget (St.forget (St.forget hst854 4) 3) 2) 1)⟩
                · replace hf := ifFb hc hf
                  refine Run.skip ?_
                  refine Run.seq ?_
                  refine Run.region ?_
                  refine Ops.ex (Ex.move rfl) rfl rfl rfl ?_
                  refine Ops.nil ?_
                  refine Run.cond rfl (fun hc => ?_) (fun hc => ?_)
                  · replace hf := ifTb hc hf
                    refine Run.seq ?_
                    refine Run.region ?_
                    refine Ops.ex (Ex.fieldAddr rfl Try.underlying47 rfl sz44) rfl rfl rfl ?_
                    refine Ops.load rfl Try.underlying44 rfl (hst854.cell (i := 3) rfl rfl) rfl ?_
                    refine Ops.ex (Ex.ci16 rfl Try.underlying44 Try.underlying3) rfl rfl rfl ?_
                    refine Ops.ex (Ex.move rfl) rfl rfl rfl ?_
                    refine Ops.ex (Ex.len' rfl rfl rfl Try.underlying41) rfl rfl rfl ?_
                    obtain ⟨y855, hy855, hf⟩ := bnd hf
                    refine Ops.call rfl rfl Try.func20 (by kernel_rfl) (by kernel_rfl) rfl (go_law15_place.walk (p0 := a6.At.toInt) (p1 := (l617.length : Int)) (hst := hst854) (hf := hy855)) ?_
                    rintro _ w855 ⟨z855, rfl, hz855, hst855⟩
                    refine ⟨_, rfl, ?_⟩
                    replace f5 := f5.mono hz855; replace f848 := f848.mono hz855; replace f628 := f628.mono hz855; replace f617 := f617.mono hz855
                    replace hy854_0 := hy854_0.trans hz855
                    replace hy854_1 := hy854_1.trans hz855
                    replace hy854_2 := hy854_2.trans hz855
                    replace hy854_3 := hy854_3.trans hz855
                    replace hz854 := hz854.trans hz855
                    refine Ops.ex (Ex.assign rfl) rfl rfl rfl ?_
                    refine Ops.nil ?_
                    refine Run.seq ?_
                    refine Run.seq ?_
                    refine Run.region ?_
                    refine Ops.ex (Ex.move rfl) rfl rfl rfl ?_
                    refine Ops.ex (Ex.move rfl) rfl rfl rfl ?_
                    obtain ⟨y857, hy857, hf⟩ := bnd hf
                    obtain ⟨g859, p859, o859, cs859, hA859, ho859, hr859, f859⟩ := own_elem f617 rfl (hst855.get (i := 4) rfl) hy857
                    obtain rfl := hr859
                    refine Ops.ex (Ex.ixA hA859 ho859 hy857 rfl rfl rfl Try.underlying41 sz3) rfl rfl rfl ?_
                    refine Ops.load rfl Try.underlying3 rfl ((f859 _ (hst855.get (i := 4) rfl)) 0 _ rfl) rfl ?_
                    refine Ops.ex (Ex.move rfl) rfl rfl rfl ?_
                    refine Ops.ex (Ex.neqI rfl rfl) rfl rfl rfl ?_
                    refine Ops.nil ?_
                    refine Run.cond rfl (fun hc => ?_) (fun hc => ?_)
                    · replace hf := ifF (neq_T hc) hf
                      refine Run.seq ?_
                      refine Run.region ?_
                      refine Ops.ex (Ex.assign rfl) rfl rfl rfl ?_
                      refine Ops.nil ?_
                      obtain rfl := Option.some.inj hf
                      exact Run.retV [vb false] rfl ⟨rfl, trivial⟩ ⟨z855, rfl, hy854_0, (St.forget (St.forget (St.forget (St.forget hst855 4) 3) 2) 1)⟩
                    · replace hf := ifT (neq_F hc) hf
                      refine Run.skip ?_
                      have hm861 := Le.refl z855
                      refine Run.drawH [] (by kernel_rfl) hst855 (fun w860 hst860 => ?_)
                      refine Any.takeE 0 rfl rfl rfl rfl (by kernel_rfl) (fun _ _ _ _ _ h => h) ((Ex.move rfl).s) ?_
                      refine Any.takeE 1 rfl rfl rfl rfl (by kernel_rfl) (fun _ _ _ _ _ h => h) ((Ex.move rfl).s) ?_
                      obtain ⟨l862, hy862, hf⟩ := bnd hf
                      obtain ⟨hl862, f862⟩ := own_pre f617 rfl (hst860.get (i := 4) rfl) hy862
                      refine Any.takeE 2 rfl rfl rfl rfl (by kernel_rfl) (fun _ _ _ _ _ h => h) ((Ex.preA hl862 hy862 rfl rfl Try.underlying41 sz3 rfl rfl).s) ?_
                      refine Any.takeE 4 rfl rfl rfl rfl (by kernel_rfl) (fun _ _ _ _ _ h => h) ((Ex.move rfl).s) ?_
                      refine Any.takeE 5 rfl rfl rfl rfl (by kernel_rfl) (fun _ _ _ _ _ h => h) ((Ex.move rfl).s) ?_
                      refine Any.takeE 6 rfl rfl rfl rfl (by kernel_rfl) (fun _ _ _ _ _ h => h) ((Ex.add rfl rfl).s) ?_
                      obtain ⟨l863, hy863, hf⟩ := bnd hf
                      obtain ⟨A863, c863, hA863, hB863, f863⟩ := own_sub f617 rfl (hst860.get (i := 4) rfl) hy863
                      refine Any.takeE 7 rfl rfl rfl rfl (by kernel_rfl) (fun _ _ _ _ _ h => h) ((Ex.subA hA863 hB863 hy863 rfl rfl Try.underlying41 sz3 rfl rfl).s) ?_
                      have hst865 := hst860.row0 3 1
                      obtain ⟨l864, hy864, hf⟩ := bnd hf
                      refine Any.one 3 (by kernel_rfl) rfl rfl (One.of_ops rfl ?_)
                      refine Ops.app 1 hst865 rfl (Cs.nil tI z855) rfl (f862 _ (hst865.get (i := 5) rfl)) rfl hy864 rfl rfl rfl rfl Try.underlying41 inf3 rfl (by decide) (by decide) rfl (fun A864 c864 d864 w864 f864 hst864 => Ops.stop ?_)
                      refine ⟨trivial, ?_⟩
                      obtain ⟨l867, hy867, hf⟩ := bnd hf
                      refine Any.one 8 (by kernel_rfl) rfl rfl (One.of_ops rfl ?_)
                      refine Ops.app 1 hst864 rfl f864 rfl (f863 _ (hst864.get (i := 5) rfl)) rfl hy867 rfl rfl rfl rfl Try.underlying41 inf3 rfl (by decide) (by decide) rfl (fun A867 c867 d867 w867 f867 hst867 => Ops.stop ?_)
                      refine ⟨trivial, ?_⟩
                      refine Any.takeE 9 rfl rfl rfl rfl (by kernel_rfl) (fun _ _ _ _ _ h => h) ((Ex.assign rfl).s) ?_
                      refine Any.done (by kernel_rfl) ?_
                      exact Run.sub (by exact subB_spec ⟨rfl, rfl, rfl, rfl, rfl, rfl, trivial⟩) (hj637 _ _ ⟨l867, x618, y845.2.2.wait_, y845.2.2.lost_, A867, c867, d867, A848, c848, d848, z855, hf, rfl, hy854_3, hy854_0, hy854_1, hy854_2, f867, f848, (St.up (St.up (St.up (St.up (St.forget (St.forget hst867 5) 4) 2 rfl) 3 rfl) 3 rfl) 3 rfl)⟩)
                  · replace hf := ifFb hc hf
                    refine Run.skip ?_
                    exact Run.sub (by exact subB_spec ⟨rfl, rfl, rfl, rfl, rfl, rfl, trivial⟩) (hj637 _ _ ⟨l617, x618, y845.2.2.wait_, y845.2.2.lost_, A617, c617, d617, A848, c848, d848, z852, hf, rfl, hy854_3, hy854_0, hy854_1, hy854_2, f617, f848, (St.up (St.up (St.up (St.up (St.forget hst854 3) 1 rfl) 2 rfl) 3 rfl) 3 rfl)⟩)
            · replace hf := ifF (dec_F hc) hf
              refine Run.seq ?_
              refine Run.region ?_
              refine Ops.ex (Ex.eql8 (a := (a6.Op % 5)) (b := 3) rfl rfl) rfl rfl rfl ?_
              refine Ops.ex (Ex.assign rfl) rfl rfl rfl ?_
              refine Ops.nil ?_
              refine Run.cond rfl (fun hc => ?_) (fun hc => ?_)
              · replace hf := ifT (dec_T hc) hf
                refine Run.seq ?_
                refine Run.seq ?_
                refine Run.region ?_
                refine Ops.ex (Ex.move rfl) rfl rfl rfl ?_
                refine Ops.ex (Ex.fieldAddr rfl Try.underlying47 rfl sz44) rfl rfl rfl ?_
                refine Ops.load rfl Try.underlying44 rfl (hst636.cell (i := 1) rfl rfl) rfl ?_
                refine Ops.ex (Ex.ci16 rfl Try.underlying44 Try.underlying3) rfl rfl rfl ?_
                obtain ⟨y868, hy868, hf⟩ := bnd hf
                refine Ops.call rfl rfl Try.func21 (by kernel_rfl) (by kernel_rfl) rfl (go_net_Net_int_Drop.walk (p0 := (⟨l619, x620⟩ : netNetint)) (p1 := a6.At.toInt) (hst := (St.up (St.up (St.up (St.up (St.up hst636 2 rfl) 2 rfl) 3 rfl) 4 rfl) 4 rfl)) (f1 := f619) (hf := hy868)) ?_
                rintro _ w868 ⟨z868, A870, c870, d870, rfl, hz868, f870, hst868⟩
                refine ⟨_, rfl, ?_⟩
                replace f5 := f5.mono hz868; replace f628 := f628.mono hz868; replace f617 := f617.mono hz868
                replace hy636_0 := hy636_0.trans hz868
                replace hy636_1 := hy636_1.trans hz868
                replace hz636 := hz636.trans hz868
                replace hm765 := hm765.trans hz868
                refine Ops.ex (Ex.move rfl) rfl rfl rfl ?_
                refine Ops.ex (Ex.len' rfl rfl rfl Try.underlying41) rfl rfl rfl ?_
                refine Ops.ex (Ex.gtr rfl rfl) rfl rfl rfl ?_
                refine Ops.ex (Ex.neqBo rfl rfl Try.underlying4) rfl rfl rfl ?_
                refine Ops.nil ?_
                refine Run.cond rfl (fun hc => ?_) (fun hc => ?_)
                · replace hf := ifF (neq_T hc) hf
                  refine Run.seq ?_
                  refine Run.region ?_
                  refine Ops.ex (Ex.assign rfl) rfl rfl rfl ?_
                  refine Ops.nil ?_
                  obtain rfl := Option.some.inj hf
                  exact Run.retV [vb false] rfl ⟨rfl, trivial⟩ ⟨z868, rfl, hy636_0, (St.forget (St.forget (St.forget (St.forget hst868 4) 3) 2) 1)⟩
                · replace hf := ifT (neq_F hc) hf
                  refine Run.skip ?_
                  refine Run.seq ?_
                  refine Run.region ?_
                  refine Ops.ex (Ex.move rfl) rfl rfl rfl ?_
                  refine Ops.ex (Ex.len' rfl rfl rfl Try.underlying41) rfl rfl rfl ?_
                  refine Ops.ex (Ex.gtr rfl rfl) rfl rfl rfl ?_
                  refine Ops.nil ?_
                  refine Run.cond rfl (fun hc => ?_) (fun hc => ?_)
                  · replace hf := ifT (dec_T hc) hf
                    refine Run.seq ?_
                    refine Run.region ?_
                    refine Ops.ex (Ex.fieldAddr rfl Try.underlying47 rfl sz44) rfl rfl rfl ?_
                    refine Ops.load rfl Try.underlying44 rfl (hst868.cell (i := 3) rfl rfl) rfl ?_
                    refine Ops.ex (Ex.ci16 rfl Try.underlying44 Try.underlying3) rfl rfl rfl ?_
                    refine Ops.ex (Ex.move rfl) rfl rfl rfl ?_
                    refine Ops.ex (Ex.len' rfl rfl rfl Try.underlying41) rfl rfl rfl ?_
                    obtain ⟨y872, hy872, hf⟩ := bnd hf
                    refine Ops.call rfl rfl Try.func20 (by kernel_rfl) (by kernel_rfl) rfl (go_law15_place.walk (p0 := a6.At.toInt) (p1 := (l617.length : Int)) (hst := hst868) (hf := hy872)) ?_
                    rintro _ w872 ⟨z872, rfl, hz872, hst872⟩
                    refine ⟨_, rfl, ?_⟩
                    replace f5 := f5.mono hz872; replace f870 := f870.mono hz872; replace f628 := f628.mono hz872; replace f617 := f617.mono hz872
                    replace hy636_0 := hy636_0.trans hz872
                    replace hy636_1 := hy636_1.trans hz872
                    replace hz636 := hz636.trans hz872
                    replace hm765 := hm765.trans hz872
                    refine Ops.ex (Ex.assign rfl) rfl rfl rfl ?_
                    refine Ops.nil ?_
                    have hm875 := Le.refl z872
                    refine Run.drawH [] (by kernel_rfl) hst872 (fun w874 hst874 => ?_)
                    refine Any.takeE 0 rfl rfl rfl rfl (by kernel_rfl) (fun _ _ _ _ _ h => h) ((Ex.move rfl).s) ?_
                    refine Any.takeE 1 rfl rfl rfl rfl (by kernel_rfl) (fun _ _ _ _ _ h => h) ((Ex.move rfl).s) ?_
                    obtain ⟨l876, hy876, hf⟩ := bnd hf
                    obtain ⟨hl876, f876⟩ := own_pre f617 rfl (hst874.get (i := 4) rfl) hy876
                    refine Any.takeE 2 rfl rfl rfl rfl (by kernel_rfl) (fun _ _ _ _ _ h => h) ((Ex.preA hl876 hy876 rfl rfl Try.underlying41 sz3 rfl rfl).s) ?_
                    refine Any.takeE 4 rfl rfl rfl rfl (by kernel_rfl) (fun _ _ _ _ _ h => h) ((Ex.move rfl).s) ?_
                    refine Any.takeE 5 rfl rfl rfl rfl (by kernel_rfl) (fun _ _ _ _ _ h => h) ((Ex.move rfl).s) ?_
                    refine Any.takeE 6 rfl rfl rfl rfl (by kernel_rfl) (fun _ _ _ _ _ h => h) ((Ex.add rfl rfl).s) ?_
                    obtain ⟨l877, hy877, hf⟩ := bnd hf
                    obtain ⟨A877, c877, hA877, hB877, f877⟩ := own_sub f617 rfl (hst874.get (i := 4) rfl) hy877
                    refine Any.takeE 7 rfl rfl rfl rfl (by kernel_rfl) (fun _ _ _ _ _ h => h) ((Ex.subA hA877 hB877 hy877 rfl rfl Try.underlying41 sz3 rfl rfl).s) ?_
                    refine Any.takeE 9 rfl rfl rfl rfl (by kernel_rfl) (fun _ _ _ _ _ h => h) ((Ex.move rfl).s) ?_
                    refine Any.takeE 10 rfl rfl rfl rfl (by kernel_rfl) (fun _ _ _ _ _ h => h) ((Ex.add rfl rfl).s) ?_
                    have hst879 := hst874.row0 3 1
                    obtain ⟨l878, hy878, hf⟩ := bnd hf
                    refine Any.one 3 (by kernel_rfl) rfl rfl (One.of_ops rfl ?_)
                    refine Ops.app 1 hst879 rfl (Cs.nil tI z872) rfl (f876 _ (hst879.get (i := 5) rfl)) rfl hy878 rfl rfl rfl rfl Try.underlying41 inf3 rfl (by decide) (by decide) rfl (fun A878 c878 d878 w878 f878 hst878 => Ops.stop ?_)
                    refine ⟨trivial, ?_⟩
                    obtain ⟨l881, hy881, hf⟩ := bnd hf
                    refine Any.one 8 (by kernel_rfl) rfl rfl (One.of_ops rfl ?_)
                    refine Ops.app 1 hst878 rfl f878 rfl (f877 _ (hst878.get (i := 5) rfl)) rfl hy881 rfl rfl rfl rfl Try.underlying41 inf3 rfl (by decide) (by decide) rfl (fun A881 c881 d881 w881 f881 hst881 => Ops.stop ?_)
                    refine ⟨trivial, ?_⟩
                    refine Any.takeE 11 rfl rfl rfl rfl (by kernel_rfl) (fun _ _ _ _ _ h => h) ((Ex.assign rfl).s) ?_
                    refine Any.takeE 12 rfl rfl rfl rfl (by kernel_rfl) (fun _ _ _ _ _ h => h) ((Ex.assign rfl).s) ?_
                    refine Any.done (by kernel_rfl) ?_
                    exact Run.sub (by exact subB_spec ⟨rfl, rfl, rfl, rfl, rfl, rfl, trivial⟩) (hj637 _ _ ⟨l881, wr (x618 + 1), y868.2.wait_, y868.2.lost_, A881, c881, d881, A870, c870, d870, z872, hf, rfl, hm765, hy636_0, hy636_1, hz636, f881, f870, (St.up (St.up (St.up (St.up (St.forget (St.forget hst881 5) 4) 2 rfl) 3 rfl) 3 rfl) 3 rfl)⟩)
                  · replace hf := ifF (dec_F hc) hf
                    refine Run.skip ?_
                    exact Run.sub (by exact subB_spec ⟨rfl, rfl, rfl, rfl, rfl, rfl, trivial⟩) (hj637 _ _ ⟨l617, x618, y868.2.wait_, y868.2.lost_, A617, c617, d617, A870, c870, d870, z868, hf, rfl, hm765, hy636_0, hy636_1, hz636, f617, f870, (St.up (St.up (St.up (St.up (St.forget hst868 3) 1 rfl) 2 rfl) 3 rfl) 3 rfl)⟩)
              · replace hf := ifF (dec_F hc) hf
                refine Run.seq ?_
                refine Run.seq ?_
                refine Run.region ?_
                refine Ops.ex (Ex.move rfl) rfl rfl rfl ?_
                refine Ops.ex (Ex.fieldAddr rfl Try.underlying47 rfl sz44) rfl rfl rfl ?_
                refine Ops.load rfl Try.underlying44 rfl (hst636.cell (i := 1) rfl rfl) rfl ?_
                refine Ops.ex (Ex.ci16 rfl Try.underlying44 Try.underlying3) rfl rfl rfl ?_
                obtain ⟨y882, hy882, hf⟩ := bnd hf
                refine Ops.call rfl rfl Try.func22 (by kernel_rfl) (by kernel_rfl) rfl (go_net_Net_int_Twice.walk (p0 := (⟨l619, x620⟩ : netNetint)) (p1 := a6.At.toInt) (hst := (St.up (St.up (St.up (St.up (St.up hst636 2 rfl) 2 rfl) 3 rfl) 4 rfl) 4 rfl)) (f1 := f619) (hf := hy882)) ?_
                rintro _ w882 ⟨z882, A884, c884, d884, rfl, hz882, f884, hst882⟩
                refine ⟨_, rfl, ?_⟩
                replace f5 := f5.mono hz882; replace f628 := f628.mono hz882; replace f617 := f617.mono hz882
                replace hy636_0 := hy636_0.trans hz882
                replace hy636_1 := hy636_1.trans hz882
                replace hz636 := hz636.trans hz882
                replace hm765 := hm765.trans hz882
                refine Ops.ex (Ex.move rfl) rfl rfl rfl ?_
                refine Ops.ex (Ex.len' rfl rfl rfl Try.underlying41) rfl rfl rfl ?_
                refine Ops.ex (Ex.gtr rfl rfl) rfl rfl rfl ?_
                refine Ops.ex (Ex.neqBo rfl rfl Try.underlying4) rfl rfl rfl ?_
                refine Ops.nil ?_
                refine Run.cond rfl (fun hc => ?_) (fun hc => ?_)
                · replace hf := ifF (neq_T hc) hf
                  refine Run.seq ?_
                  refine Run.region ?_
                  refine Ops.ex (Ex.assign rfl) rfl rfl rfl ?_
                  refine Ops.nil ?_
                  obtain rfl := Option.some.inj hf
                  exact Run.retV [vb false] rfl ⟨rfl, trivial⟩ ⟨z882, rfl, hy636_0, (St.forget (St.forget (St.forget (St.forget hst882 4) 3) 2) 1)⟩
                · replace hf := ifT (neq_F hc) hf
                  refine Run.skip ?_
                  refine Run.seq ?_
                  refine Run.region ?_
                  refine Ops.ex (Ex.move rfl) rfl rfl rfl ?_
                  refine Ops.ex (Ex.len' rfl rfl rfl Try.underlying41) rfl rfl rfl ?_
                  refine Ops.ex (Ex.gtr rfl rfl) rfl rfl rfl ?_
                  refine Ops.nil ?_
                  refine Run.cond rfl (fun hc => ?_) (fun hc => ?_)
                  · replace hf := ifT (dec_T hc) hf
                    refine Run.seq ?_
                    refine Run.region ?_
                    refine Ops.ex (Ex.move rfl) rfl rfl rfl ?_
                    refine Ops.ex (Ex.fieldAddr rfl Try.underlying47 rfl sz44) rfl rfl rfl ?_
                    refine Ops.load rfl Try.underlying44 rfl (hst882.cell (i := 3) rfl rfl) rfl ?_
                    refine Ops.ex (Ex.ci16 rfl Try.underlying44 Try.underlying3) rfl rfl rfl ?_
                    refine Ops.ex (Ex.move rfl) rfl rfl rfl ?_
                    refine Ops.ex (Ex.len' rfl rfl rfl Try.underlying41) rfl rfl rfl ?_
                    obtain ⟨y886, hy886, hf⟩ := bnd hf
                    refine Ops.call rfl rfl Try.func20 (by kernel_rfl) (by kernel_rfl) rfl (go_law15_place.walk (p0 := a6.At.toInt) (p1 := (l617.length : Int)) (hst := hst882) (hf := hy886)) ?_
                    rintro _ w886 ⟨z886, rfl, hz886, hst886⟩
                    refine ⟨_, rfl, ?_⟩
                    replace f5 := f5.mono hz886; replace f884 := f884.mono hz886; replace f628 := f628.mono hz886; replace f617 := f617.mono hz886
                    replace hy636_0 := hy636_0.trans hz886
                    replace hy636_1 := hy636_1.trans hz886
                    replace hz636 := hz636.trans hz886
                    replace hm765 := hm765.trans hz886
                    obtain ⟨y888, hy888, hf⟩ := bnd hf
                    obtain ⟨g890, p890, o890, cs890, hA890, ho890, hr890, f890⟩ := own_elem f617 rfl (hst886.get (i := 4) rfl) hy888
                    obtain rfl := hr890
                    refine Ops.ex (Ex.ixA hA890 ho890 hy888 rfl rfl rfl Try.underlying41 sz3) rfl rfl rfl ?_
                    refine Ops.load rfl Try.underlying3 rfl ((f890 _ (hst886.get (i := 4) rfl)) 0 _ rfl) rfl ?_
                    refine Ops.ex (Ex.assign rfl) rfl rfl rfl ?_
                    refine Ops.nil ?_
                    refine Run.seq ?_
                    refine Run.seq ?_
                    refine Run.region ?_
                    refine Ops.ex (Ex.move rfl) rfl rfl rfl ?_
                    refine Ops.ex (Ex.len' rfl rfl rfl Try.underlying41) rfl rfl rfl ?_
                    refine Ops.ex (Ex.eqlI rfl rfl) rfl rfl rfl ?_
                    refine Ops.nil ?_
                    refine Run.cond rfl (fun hc => ?_) (fun hc => ?_)
                    · replace hf := ifT (dec_T hc) hf
                      refine Run.region ?_
                      refine Ops.ex (Ex.move rfl) rfl rfl rfl ?_
                      obtain ⟨l891, hy891, hf⟩ := bnd hf
                      obtain ⟨A891, c891, hA891, hB891, f891⟩ := own_sub f617 rfl (hst886.get (i := 4) rfl) hy891
                      refine Ops.ex (Ex.subA hA891 hB891 hy891 rfl rfl Try.underlying41 sz3 rfl rfl) rfl rfl rfl ?_
                      refine Ops.ex (Ex.move rfl) rfl rfl rfl ?_
                      refine Ops.ex (Ex.add rfl rfl) rfl rfl rfl ?_
                      refine Ops.ex (Ex.assign rfl) rfl rfl rfl ?_
                      refine Ops.ex (Ex.assign rfl) rfl rfl rfl ?_
                      refine Ops.nil ?_
                      refine Run.region ?_
                      refine Ops.ex (Ex.move rfl) rfl rfl rfl ?_
                      refine Ops.ex (Ex.move rfl) rfl rfl rfl ?_
                      refine Ops.sliceF [vi y888] hst886 rfl Try.underlying41 sz3 zr3 rfl rfl (by kernel_rfl) rfl (by simp [Value.oneCell']) rfl (fun A892 w892 hst892 => ?_)
                      have f892 : Cs tI z886 [vi y888] [y888] := (Cs.cons (c := [vi y888]) rfl (Cs.nil _ _))
                      obtain ⟨f893, hst893⟩ := St.dropRow 5 hst892 rfl f617 rfl hA891 hB891 hy891 rfl
                      replace hst893 : Ht w0 (frz z886 :: (orow 3 1 (.slice A892 [y888].length 1) [y888].length [vi y888]) :: (blk g4 [.slice A884 y882.2.wait_.length c884, vi y882.2.lost_] 43) :: (orow 3 1 (.slice A884 y882.2.wait_.length c884) y882.2.wait_.length d884) :: (blk g630 [vu8 a6.Op, vi16 a6.At, .slice A628 a6.Row.length c628] 47) :: (orow 3 1 (.slice A891 l891.length c891) l891.length (List.drop ((1 : Int).toNat * 1) d617)) :: X) _ := hst893
                      obtain ⟨l894, hy894, hf⟩ := bnd hf
                      refine Ops.app 5 hst893 rfl f893 rfl (own_slh f892 rfl (hst893.get (i := 1) rfl)) rfl hy894 rfl rfl rfl rfl Try.underlying41 inf3 rfl (by decide) (by decide) rfl (fun A894 c894 d894 w894 f894 hst894 => ?_)
                      refine Ops.ex (Ex.assign rfl) rfl rfl rfl ?_
                      refine Ops.nil ?_
                      exact Run.sub (by exact subB_spec ⟨rfl, rfl, rfl, rfl, rfl, rfl, trivial⟩) (hj637 _ _ ⟨l894, wr (x618 + 1), y882.2.wait_, y882.2.lost_, A894, c894, d894, A884, c884, d884, z886, hf, rfl, hm765, hy636_0, hy636_1, hz636, f894, f884, (St.up (St.up (St.up (St.up (St.forget (St.forget hst894 4) 1) 1 rfl) 2 rfl) 3 rfl) 3 rfl)⟩)
                    · replace hf := ifF (dec_F hc) hf
                      refine Run.skip ?_
                      refine Run.region ?_
                      refine Ops.ex (Ex.move rfl) rfl rfl rfl ?_
                      refine Ops.ex (Ex.move rfl) rfl rfl rfl ?_
                      refine Ops.sliceF [vi y888] hst886 rfl Try.underlying41 sz3 zr3 rfl rfl (by kernel_rfl) rfl (by simp [Value.oneCell']) rfl (fun A895 w895 hst895 => ?_)
                      have f895 : Cs tI z886 [vi y888] [y888] := (Cs.cons (c := [vi y888]) rfl (Cs.nil _ _))
                      obtain ⟨l896, hy896, hf⟩ := bnd hf
                      refine Ops.app 5 hst895 rfl f617 rfl (own_slh f895 rfl (hst895.get (i := 1) rfl)) rfl hy896 rfl rfl rfl rfl Try.underlying41 inf3 rfl (by decide) (by decide) rfl (fun A896 c896 d896 w896 f896 hst896 => ?_)
                      refine Ops.ex (Ex.assign rfl) rfl rfl rfl ?_
                      refine Ops.nil ?_
                      exact Run.sub (by exact subB_spec ⟨rfl, rfl, rfl, rfl, rfl, rfl, trivial⟩) (hj637 _ _ ⟨l896, x618, y882.2.wait_, y882.2.lost_, A896, c896, d896, A884, c884, d884, z886, hf, rfl, hm765, hy636_0, hy636_1, hz636, f896, f884, (St.up (St.up (St.up (St.up (St.forget (St.forget hst896 4) 1) 1 rfl) 2 rfl) 3 rfl) 3 rfl)⟩)
                  · replace hf := ifF (dec_F hc) hf
                    refine Run.skip ?_
                    exact Run.sub (by exact subB_spec ⟨rfl, rfl, rfl, rfl, rfl, rfl, trivial⟩) (hj637 _ _ ⟨l617, x618, y882.2.wait_, y882.2.lost_, A617, c617, d617, A884, c884, d884, z882, hf, rfl, hm765, hy636_0, hy636_1, hz636, f617, f884, (St.up (St.up (St.up (St.up (St.forget hst882 3) 1 rfl) 2 rfl) 3 rfl) 3 rfl)⟩)
        · rintro e' w897 ⟨l767, x768, l769, x770, A767, c767, d767, A769, c769, d769, z766, hf, rfl, hz897, hy897_0, hy897_1, hy897_2, f767, f769, hst897⟩
          replace f5 := f5.mono hz897
          unfold go_law15_NetScript.j2 at hf
          refine Run.endBlk ?_
          refine Run.seq ?_
          refine Run.region ?_
          refine Ops.ex (Ex.move rfl) rfl rfl rfl ?_
          refine Ops.ex (Ex.move rfl) rfl rfl rfl ?_
          refine Ops.ex (Ex.move rfl) rfl rfl rfl ?_
          obtain ⟨z899, hz899, f899, hst899, hu899⟩ := St.lend (τ := tI) (xs := l767) hst897 f767 rfl
          obtain ⟨y898, hy898, hf⟩ := bnd hf
          refine Ops.call rfl rfl Try.func23 (by kernel_rfl) (by kernel_rfl) rfl (go_law15_shows.walk (p0 := (⟨l769, x770⟩ : netNetint)) (p1 := l767) (p2 := x768) (hst := (St.up (St.up (St.up hst899 1 rfl) 2 rfl) 2 rfl)) (f1 := f769) (f3 := f899) (hf := hy898)) ?_
          rintro _ w898 ⟨z898, rfl, hz898, hst898⟩
          obtain ⟨z901, hz901, hst901⟩ := hu899 _ _ _ hz898 hst898
          refine ⟨_, rfl, ?_⟩
          replace f5 := f5.mono hz901; replace f767 := f767.mono hz901; replace f769 := f769.mono hz901
          replace hy897_0 := hy897_0.trans hz901
          replace hy897_1 := hy897_1.trans hz901
          replace hy897_2 := hy897_2.trans hz901
          replace hz897 := hz897.trans hz901
          refine Ops.ex (Ex.not rfl) rfl rfl rfl ?_
          refine Ops.nil ?_
          refine Run.cond rfl (fun hc => ?_) (fun hc => ?_)
          · replace hf := ifFb (bn_T hc) hf
            refine Run.seq ?_
            refine Run.region ?_
            refine Ops.ex (Ex.assign rfl) rfl rfl rfl ?_
            refine Ops.nil ?_
            obtain rfl := Option.some.inj hf
            exact Run.retV [vb false] rfl ⟨rfl, trivial⟩ ⟨z901, rfl, hy897_0, (St.forget (St.forget (St.forget hst901 3) 2) 1)⟩
          · replace hf := ifTb (bn_F hc) hf
            refine Run.skip ?_
            refine Run.endBlk ?_
            refine Run.region ?_
            refine Ops.ex (Ex.add rfl rfl) rfl rfl rfl ?_
            refine Ops.ex (Ex.move rfl) rfl rfl rfl ?_
            refine Ops.nil ?_
            refine Run.re 26 rfl (congrArg vi (wr_succ' hl6 hc6)) ?_
            exact Run.sub (by exact subB_spec ⟨rfl, rfl, rfl, rfl, rfl, rfl, trivial⟩) (Run.stop ⟨l5.length - (i6 + 1), by omega, i6 + 1, l767, x768, l769, x770, A767, c767, d767, A769, c769, d769, z901, rfl, by omega, (hnxb6 _).symm.trans hf, rfl, hy897_1, hy897_0, f767, f769, (St.up (St.up (St.up (St.up hst901 2 rfl) 3 rfl) 3 rfl) 3 rfl)⟩)
    · replace hf := forL_out hf (nlt_of_dec hc)
      try dsimp only at hf
      refine Run.exit _ rfl ?_
      refine Run.seq ?_
      refine Run.region ?_
      refine Ops.ex (Ex.assign rfl) rfl rfl rfl ?_
      refine Ops.nil ?_
      obtain rfl := Option.some.inj hf
      exact Run.retV [vb true] rfl ⟨rfl, trivial⟩ ⟨z616, rfl, hy625_0, (St.forget (St.forget (St.forget hst625 3) 2) 1)⟩
end Go.Proofs.Ytiijlkebolfcpaa.N2
