/- Edits: check. -/
import Derived.Test.YtjlhookdigbjhaaE7
import Derived.Test.YtjlhookdigbjhaaGnP
namespace Go.Proofs.Ytjlhookdigbjhaa.E8
open Go Go.RowKit Go.Proofs.Ytjlhookdigbjhaa.Sx Go.Proofs.Ytjlhookdigbjhaa.E1 Go.Proofs.Ytjlhookdigbjhaa.E2 Go.Proofs.Ytjlhookdigbjhaa.E3 Go.Proofs.Ytjlhookdigbjhaa.E4 Go.Proofs.Ytjlhookdigbjhaa.E5 Go.Proofs.Ytjlhookdigbjhaa.E6 Go.Proofs.Ytjlhookdigbjhaa.E7
set_option linter.unusedVariables false
set_option linter.unusedSimpArgs false
noncomputable section
theorem zr100 : (Try.prog.info? 100).map (·.zero) = some (some (.agg #[.int .u32 0, .int .u32 0, .int .u32 0, .int .u32 0, .int .u32 0, .int .u32 0, .int .u32 0, .int .u32 0, .int .u32 0, .int .u32 0, .int .u32 0, .int .u32 0, .int .u32 0, .int .u32 0, .int .u32 0, .int .u32 0, .int .u32 0, .int .u32 0, .int .u32 0, .int .u32 0, .int .u32 0, .int .u32 0, .int .u32 0, .int .u32 0, .int .u32 0, .int .u32 0, .int .u32 0, .int .u32 0, .int .u32 0, .int .u32 0, .int .u32 0, .int .u32 0, .int .u32 0, .int .u32 0, .int .u32 0, .int .u32 0, .int .u32 0, .int .u32 0, .int .u32 0, .int .u32 0, .int .u32 0, .int .u32 0, .int .u32 0, .int .u32 0, .int .u32 0, .int .u32 0, .int .u32 0, .int .u32 0, .int .u32 0, .int .u32 0, .int .u32 0, .int .u32 0, .int .u32 0, .int .u32 0, .int .u32 0, .int .u32 0, .int .u32 0, .int .u32 0, .int .u32 0, .int .u32 0, .int .u32 0, .int .u32 0, .int .u32 0, .int .u32 0, .int .u32 0, .int .u32 0, .int .u32 0, .int .u32 0, .int .u32 0, .int .u32 0, .int .u32 0, .int .u32 0, .int .u32 0, .int .u32 0, .int .u32 0, .int .u32 0, .int .u32 0, .int .u32 0, .int .u32 0, .int .u32 0, .int .u32 0, .int .u32 0, .int .u32 0, .int .u32 0, .int .u32 0, .int .u32 0, .int .u32 0, .int .u32 0, .int .u32 0, .int .u32 0, .int .u32 0, .int .u32 0, .int .u32 0, .int .u32 0, .int .u32 0, .int .u32 0, .int .u32 0, .int .u32 0, .int .u32 0, .int .u32 0, .int .u32 0, .int .u32 0, .int .u32 0, .int .u32 0, .int .u32 0, .int .u32 0, .int .u32 0, .int .u32 0, .int .u32 0, .int .u32 0, .int .u32 0, .int .u32 0, .int .u32 0, .int .u32 0, .int .u32 0, .int .u32 0, .int .u32 0, .int .u32 0, .int .u32 0, .int .u32 0, .int .u32 0, .int .u32 0, .int .u32 0, .int .u32 0, .int .u32 0, .int .u32 0, .int .u32 0, .int .u32 0, .int .u32 0, .int .u32 0, .int .u32 0, .int .u32 0, .int .u32 0, .int .u32 0, .int .u32 0, .int .u32 0, .int .u32 0, .int .u32 0, .int .u32 0, .int .u32 0, .int .u32 0, .int .u32 0, .int .u32 0, .int .u32 0, .int .u32 0, .int .u32 0, .int .u32 0, .int .u32 0, .int .u32 0, .int .u32 0, .int .u32 0, .int .u32 0, .int .u32 0, .int .u32 0, .int .u32 0, .int .u32 0, .int .u32 0, .int .u32 0, .int .u32 0, .int .u32 0, .int .u32 0, .int .u32 0, .int .u32 0, .int .u32 0, .int .u32 0, .int .u32 0, .int .u32 0, .int .u32 0, .int .u32 0, .int .u32 0, .int .u32 0, .int .u32 0, .int .u32 0, .int .u32 0, .int .u32 0, .int .u32 0, .int .u32 0, .int .u32 0, .int .u32 0, .int .u32 0, .int .u32 0, .int .u32 0, .int .u32 0, .int .u32 0, .int .u32 0, .int .u32 0, .int .u32 0, .int .u32 0, .int .u32 0, .int .u32 0, .int .u32 0, .int .u32 0, .int .u32 0, .int .u32 0, .int .u32 0, .int .u32 0, .int .u32 0, .int .u32 0, .int .u32 0, .int .u32 0, .int .u32 0, .int .u32 0, .int .u32 0, .int .u32 0, .int .u32 0, .int .u32 0, .int .u32 0, .int .u32 0, .int .u32 0, .int .u32 0, .int .u32 0, .int .u32 0, .int .u32 0, .int .u32 0, .int .u32 0, .int .u32 0, .int .u32 0, .int .u32 0, .int .u32 0, .int .u32 0, .int .u32 0, .int .u32 0, .int .u32 0, .int .u32 0, .int .u32 0, .int .u32 0, .int .u32 0, .int .u32 0, .int .u32 0, .int .u32 0, .int .u32 0, .int .u32 0, .int .u32 0, .int .u32 0, .int .u32 0, .int .u32 0, .int .u32 0, .int .u32 0, .int .u32 0, .int .u32 0, .int .u32 0, .int .u32 0, .int .u32 0, .int .u32 0, .int .u32 0, .int .u32 0, .int .u32 0, .int .u32 0, .int .u32 0, .int .u32 0, .int .u32 0, .int .u32 0, .int .u32 0, .int .u32 0, .int .u32 0, .int .u32 0])) := by kernel_rfl
theorem sz86 : (Try.prog.info? 86).map (·.size) = some 1 := by kernel_rfl
theorem sz100 : (Try.prog.info? 100).map (·.size) = some 256 := by kernel_rfl
def go_check_Of.b2 (p0 : UInt32) (x59 : Int) (ar60 : List UInt32) (nxb4 : (Int × List UInt32) → Option (List UInt32)) : (UInt32 × Int) → (UInt32 × Int → Option (List UInt32)) → Option (List UInt32) :=
  fun (x78, x79) nxb62 => if x79 < 8 then (if x78 &&& 1 = 1 then (nxb62 ((shr32 x78 2) ^^^ p0, wr (x79 + 1))) else (nxb62 (shr32 x78 2, wr (x79 + 1)))) else ((atI ar60 x59).bind fun y81 => (putI ar60 x59 x78).bind fun l82 => nxb4 (wr (x59 + 1), l82))
def go_check_Of.b1 (p0 : UInt32) : (Int × List UInt32) → (Int × List UInt32 → Option (List UInt32)) → Option (List UInt32) :=
  fun (x59, ar60) nxb4 => if x59 < 256 then (loopF (go_check_Of.b2 p0 x59 ar60 nxb4) fuel (toU32 x59, 0)) else (some ar60)
def go_check_Of (p0 : UInt32) : Option (List UInt32) :=
  loopF (go_check_Of.b1 p0) fuel (0, (List.replicate 256 0))
set_option maxRecDepth 100000 in
set_option maxHeartbeats 4000000 in
theorem go_check_Of.walk {w0 w : World} {X : List Res} {z0 : Zp} {p0 : UInt32} {r : List UInt32} (hst : Ht w0 (frz z0 :: X) w) (hf : go_check_Of p0 = some r) :
    Calls Try.prog 51 #[vu32 p0] w fun e w' => ∃ (z' : Zp), e = .returned (.agg (cU r).toArray) ∧ Le z0 z' ∧ Ln r 256 ∧ Ht w0 (frz z' :: X) w' := by
  refine calls_np Try.func51 rfl rfl ?_
  have hle0 := Le.refl z0
  unfold go_check_Of at hf
  refine Run.seq ?_
  refine Run.region ?_
  refine Ops.allocF (cU (List.replicate 256 0)) hst zr100 (by kernel_rfl) rfl (fun g2 w2 hst2 => ?_)
  refine Ops.nil ?_
  refine Run.seq ?_
  refine Run.region ?_
  refine Ops.allocF (cU (List.replicate 256 0)) hst2 zr100 (by kernel_rfl) rfl (fun g3 w3 hst3 => ?_)
  refine Ops.nil ?_
  refine Run.seq ?_
  refine Run.seq ?_
  refine Run.region ?_
  refine Ops.ex (Ex.move rfl) rfl rfl rfl ?_
  refine Ops.nil ?_
  refine Run.block ?_
  refine Run.sub (e' := [(0, vu32 p0), (2, .pointer (some ⟨g2, 0, none⟩)), (3, .pointer (some ⟨g3, 0, none⟩)), (7, vi 0)]) (subB_spec ⟨rfl, rfl, rfl, rfl, trivial⟩) ?_
  refine Run.loop (fun mb4 => (fun e' w' => ∃ (x59 : Int) (ar60 : List UInt32) (z58 : Zp), loopF (go_check_Of.b1 p0) mb4 (x59, ar60) = some r ∧ e' = [(0, vu32 p0), (2, .pointer (some ⟨g2, 0, none⟩)), (3, .pointer (some ⟨g3, 0, none⟩)), (7, vi x59)] ∧ Le z0 z58 ∧ Ln ar60 256 ∧ Ht w0 (frz z58 :: (blk g3 (cU ar60) 100) :: (blk g2 (cU (List.replicate 256 0)) 100) :: X) w')) fuel ⟨0, (List.replicate 256 0), z0, hf, rfl, hle0, (List.length_replicate), hst3⟩ ?_
  rintro mb4 e' w61 ⟨x59, ar60, z58, hf, rfl, hz61, f60, hst61⟩
  obtain ⟨mb4', nxb4, rfl, hnxb4, hf⟩ := loopF_in hf
  unfold go_check_Of.b1 at hf
  try dsimp only at hf
  refine Run.seq ?_
  refine Run.region ?_
  refine Ops.ex (Ex.lss rfl rfl) rfl rfl rfl ?_
  refine Ops.nil ?_
  refine Run.seq ?_
  refine Run.cond rfl (fun hc => ?_) (fun hc => ?_)
  · replace hf := ifT (dec_T hc) hf
    refine Run.skip ?_
    refine Run.seq ?_
    refine Run.block ?_
    refine Run.seq ?_
    refine Run.region ?_
    refine Ops.ex (Ex.move rfl) rfl rfl rfl ?_
    refine Ops.ex (Ex.assign rfl) rfl rfl rfl ?_
    refine Ops.nil ?_
    refine Run.seq ?_
    refine Run.region ?_
    refine Ops.ex (Ex.move rfl) rfl rfl rfl ?_
    refine Ops.ex (Ex.cto32 rfl Try.underlying3 Try.underlying86) rfl rfl rfl ?_
    refine Ops.ex (Ex.assign rfl) rfl rfl rfl ?_
    refine Ops.nil ?_
    refine Run.seq ?_
    refine Run.seq ?_
    refine Run.region ?_
    refine Ops.ex (Ex.move rfl) rfl rfl rfl ?_
    refine Ops.nil ?_
    refine Run.block ?_
    have hm63 := Le.refl z58
    refine Run.sub (e' := [(0, vu32 p0), (2, .pointer (some ⟨g2, 0, none⟩)), (3, .pointer (some ⟨g3, 0, none⟩)), (4, vi x59), (5, vu32 (toU32 x59)), (7, vi x59), (12, vi 0)]) (subB_spec ⟨rfl, rfl, rfl, rfl, rfl, rfl, rfl, trivial⟩) ?_
    refine Run.loop (fun mb62 => (fun e' w' => ∃ (x78 : UInt32) (x79 : Int) (z77 : Zp), loopF (go_check_Of.b2 p0 x59 ar60 nxb4) mb62 (x78, x79) = some r ∧ e' = [(0, vu32 p0), (2, .pointer (some ⟨g2, 0, none⟩)), (3, .pointer (some ⟨g3, 0, none⟩)), (4, vi x59), (5, vu32 x78), (7, vi x59), (12, vi x79)] ∧ Le z58 z77 ∧ Le z0 z77 ∧ Ht w0 (frz z77 :: (blk g3 (cU ar60) 100) :: (blk g2 (cU (List.replicate 256 0)) 100) :: X) w')) fuel ⟨toU32 x59, 0, z58, hf, rfl, hm63, hz61, hst61⟩ ?_
    rintro mb62 e' w80 ⟨x78, x79, z77, hf, rfl, hz80, hy80_0, hst80⟩
    replace f60 := f60.mono hz80
    obtain ⟨mb62', nxb62, rfl, hnxb62, hf⟩ := loopF_in hf
    unfold go_check_Of.b2 at hf
    try dsimp only at hf
    refine Run.seq ?_
    refine Run.region ?_
    refine Ops.ex (Ex.lss rfl rfl) rfl rfl rfl ?_
    refine Ops.nil ?_
    refine Run.seq ?_
    refine Run.cond rfl (fun hc => ?_) (fun hc => ?_)
    · replace hf := ifT (dec_T hc) hf
      refine Run.skip ?_
      refine Run.seq ?_
      refine Run.block ?_
      refine Run.seq ?_
      refine Run.region ?_
      refine Ops.ex (Ex.move rfl) rfl rfl rfl ?_
      refine Ops.ex (Ex.and32 (a := x78) (b := 1) rfl rfl) rfl rfl rfl ?_
      refine Ops.ex (Ex.assign rfl) rfl rfl rfl ?_
      refine Ops.nil ?_
      refine Run.seq ?_
      refine Run.region ?_
      refine Ops.ex (Ex.move rfl) rfl rfl rfl ?_
      refine Ops.ex (Ex.shr32 (a := x78) (m := 2) rfl rfl (by decide) (by decide) (by decide)) rfl rfl rfl ?_
      refine Ops.ex (Ex.assign rfl) rfl rfl rfl ?_
      refine Ops.nil ?_
      refine Run.seq ?_
      refine Run.region ?_
      refine Ops.ex (Ex.move rfl) rfl rfl rfl ?_
      refine Ops.ex (Ex.eql32 (a := (x78 &&& 1)) (b := 1) rfl rfl) rfl rfl rfl ?_
      refine Ops.nil ?_
      refine Run.cond rfl (fun hc => ?_) (fun hc => ?_)
      · replace hf := ifT (dec_T hc) hf
        refine Run.region ?_
        refine Ops.ex (Ex.move rfl) rfl rfl rfl ?_
        refine Ops.ex (Ex.move rfl) rfl rfl rfl ?_
        refine Ops.ex (Ex.xor32 rfl rfl) rfl rfl rfl ?_
        refine Ops.ex (Ex.assign rfl) rfl rfl rfl ?_
        refine Ops.nil ?_
        refine Run.endBlk ?_
        refine Run.region ?_
        refine Ops.ex (Ex.add rfl rfl) rfl rfl rfl ?_
        refine Ops.ex (Ex.move rfl) rfl rfl rfl ?_
        refine Ops.nil ?_
        exact Run.sub (by exact subB_spec ⟨rfl, rfl, rfl, rfl, rfl, rfl, rfl, trivial⟩) (Run.stop ⟨mb62', Nat.lt_succ_self _, (shr32 x78 2) ^^^ p0, wr (x79 + 1), z77, (hnxb62 _).symm.trans hf, rfl, hz80, hy80_0, hst80⟩)
      · replace hf := ifF (dec_F hc) hf
        refine Run.skip ?_
        refine Run.endBlk ?_
        refine Run.region ?_
        refine Ops.ex (Ex.add rfl rfl) rfl rfl rfl ?_
        refine Ops.ex (Ex.move rfl) rfl rfl rfl ?_
        refine Ops.nil ?_
        exact Run.sub (by exact subB_spec ⟨rfl, rfl, rfl, rfl, rfl, rfl, rfl, trivial⟩) (Run.stop ⟨mb62', Nat.lt_succ_self _, shr32 x78 2, wr (x79 + 1), z77, (hnxb62 _).symm.trans hf, rfl, hz80, hy80_0, hst80⟩)
    · replace hf := ifF (dec_F hc) hf
      refine Run.exit _ rfl ?_
      refine Run.region ?_
      refine Ops.ex (Ex.move rfl) rfl rfl rfl ?_
      refine Ops.ex (Ex.move rfl) rfl rfl rfl ?_
      obtain ⟨y81, hy81, hf⟩ := bnd hf
      refine Ops.ex (Ex.ixArr f60 hy81 rfl rfl Try.underlying100 sz86) rfl rfl rfl ?_
      obtain ⟨l82, hy82, hf⟩ := bnd hf
      refine Ops.storeU 1 hst80 rfl hy82 rfl rfl sz86 (fun w82 hst82 => ?_)
      have f82 := Ln.put f60 hy82
      refine Ops.nil ?_
      refine Run.endBlk ?_
      refine Run.region ?_
      refine Ops.ex (Ex.add rfl rfl) rfl rfl rfl ?_
      refine Ops.ex (Ex.move rfl) rfl rfl rfl ?_
      refine Ops.nil ?_
      exact Run.sub (by exact subB_spec ⟨rfl, rfl, rfl, rfl, trivial⟩) (Run.stop ⟨mb4', Nat.lt_succ_self _, wr (x59 + 1), l82, z77, (hnxb4 _).symm.trans hf, rfl, hy80_0, f82, hst82⟩)
  · replace hf := ifF (dec_F hc) hf
    refine Run.exit _ rfl ?_
    refine Run.seq ?_
    refine Run.region ?_
    refine Ops.loadAgg (cU ar60) rfl Try.underlying100 rfl sz100 (by simp only [cU, List.length_map]; exact f60) (cU_cells hst61 (j := 1) rfl) rfl ?_
    refine Ops.storeW 2 hst61 rfl (List.length_replicate) f60 rfl rfl sz100 (fun w83 hst83 => ?_)
    refine Ops.nil ?_
    obtain rfl := Option.some.inj hf
    exact Run.retV [.agg (cU ar60).toArray] rfl ⟨⟨_, rfl, run_loadN (cU ar60) Try.underlying100 rfl sz100 (by simp only [cU, List.length_map]; exact f60) (cU_cells hst83 (j := 2) rfl)⟩, trivial⟩ ⟨z58, rfl, hz61, f60, (St.forget (St.forget hst83 2) 1)⟩
def go_check_Table_Sum.b1 (p0 : List UInt32) (i3 : Nat) (a3 : UInt8) : UInt32 → (UInt32 → Option UInt32) → Option UInt32 :=
  fun x18 nxb3 => (atI p0 (((toU8 (x18.toNat : Int)) ^^^ a3).toNat : Int)).bind fun y22 => nxb3 (y22 ^^^ (shr32 x18 256))
def go_check_Table_Sum (p0 : List UInt32) (p1 : List UInt8) : Option UInt32 :=
  forL (go_check_Table_Sum.b1 p0) (fun x18 => some (4294967295 ^^^ x18)) 0 p1 4294967295
set_option maxRecDepth 100000 in
set_option maxHeartbeats 4000000 in
theorem go_check_Table_Sum.walk {w0 w : World} {X : List Res} {z0 : Zp} {p0 : List UInt32} {g0 : Nat} {p1 : List UInt8} {A2 : Option Addr} {c2 : Nat} {r : UInt32} (hst : Ht w0 (frz z0 :: (blk g0 (cU p0) 100) :: X) w) (f1 : Ln p0 256) (f2 : Sl tU8 z0 A2 c2 p1) (hf : go_check_Table_Sum p0 p1 = some r) :
    Calls Try.prog 52 #[.pointer (some ⟨g0, 0, none⟩), .slice A2 p1.length c2] w fun e w' => ∃ (z' : Zp), e = .returned (vu32 r) ∧ Le z0 z' ∧ Ht w0 (frz z' :: (blk g0 (cU p0) 100) :: X) w' := by
  refine calls_np Try.func52 rfl rfl ?_
  have hle0 := Le.refl z0
  unfold go_check_Table_Sum at hf
  refine Run.seq ?_
  refine Run.region ?_
  refine Ops.ex (Ex.assign rfl) rfl rfl rfl ?_
  refine Ops.nil ?_
  refine Run.seq ?_
  refine Run.region ?_
  refine Ops.ex (Ex.assign rfl) rfl rfl rfl ?_
  refine Ops.nil ?_
  refine Run.seq ?_
  refine Run.seq ?_
  refine Run.region ?_
  refine Ops.ex (Ex.move rfl) rfl rfl rfl ?_
  refine Ops.ex (Ex.len' rfl rfl rfl Try.underlying30) rfl rfl rfl ?_
  refine Ops.ex (Ex.move rfl) rfl rfl rfl ?_
  refine Ops.nil ?_
  refine Run.block ?_
  have hc3 := f2.cap
  refine Run.sub (e' := [(0, .pointer (some ⟨g0, 0, none⟩)), (5, vu32 4294967295), (8, .slice A2 p1.length c2), (9, vi (p1.length : Int)), (10, vi ((0 : Nat) : Int))]) (subB_spec ⟨rfl, rfl, rfl, rfl, rfl, trivial⟩) ?_
  refine Run.loop (fun mb3 => (fun e' w' => ∃ (i3 : Nat) (x18 : UInt32) (z17 : Zp), mb3 = p1.length - i3 ∧ i3 ≤ p1.length ∧ forL (go_check_Table_Sum.b1 p0) (fun x18 => some (4294967295 ^^^ x18)) i3 (p1.drop i3) x18 = some r ∧ e' = [(0, .pointer (some ⟨g0, 0, none⟩)), (5, vu32 x18), (8, .slice A2 p1.length c2), (9, vi (p1.length : Int)), (10, vi (i3 : Int))] ∧ Le z0 z17 ∧ Ht w0 (frz z17 :: (blk g0 (cU p0) 100) :: X) w')) p1.length ⟨0, 4294967295, z0, rfl, Nat.zero_le _, hf, rfl, hle0, hst⟩ ?_
  rintro _ e' w19 ⟨i3, x18, z17, rfl, hi3, hf, rfl, hz19, hst19⟩
  replace f2 := f2.mono hz19; replace f1 := f1.mono hz19
  refine Run.seq ?_
  refine Run.region ?_
  refine Ops.ex (Ex.lss rfl rfl) rfl rfl rfl ?_
  refine Ops.nil ?_
  refine Run.seq ?_
  refine Run.cond rfl (fun hc => ?_) (fun hc => ?_)
  · have hl3 := lt_of_dec hc
    obtain ⟨a3, nxb3, ha3, hnxb3, hf⟩ := forL_in hf hl3
    unfold go_check_Table_Sum.b1 at hf
    try dsimp only at hf
    refine Run.skip ?_
    refine Run.seq ?_
    refine Run.block ?_
    refine Run.seq ?_
    refine Run.region ?_
    obtain ⟨g21, p21, o21, cs21, hA21, ho21, hr21, f21⟩ := SlH.elem f2.toH (atI_nat ha3)
    obtain rfl := hr21
    refine Ops.ex (Ex.ixA hA21 ho21 (atI_nat ha3) rfl rfl rfl Try.underlying30 sz5) rfl rfl rfl ?_
    refine Ops.load rfl Try.underlying5 rfl ((f21.mono hst19.le) 0 _ rfl) rfl ?_
    refine Ops.ex (Ex.assign rfl) rfl rfl rfl ?_
    refine Ops.nil ?_
    refine Run.region ?_
    refine Ops.ex (Ex.move rfl) rfl rfl rfl ?_
    refine Ops.ex (Ex.move rfl) rfl rfl rfl ?_
    refine Ops.ex (Ex.cto8 rfl Try.underlying86 Try.underlying5) rfl rfl rfl ?_
    refine Ops.ex (Ex.move rfl) rfl rfl rfl ?_
    refine Ops.ex (Ex.xor8 rfl rfl) rfl rfl rfl ?_
    refine Ops.ex (Ex.nilCheck rfl) rfl rfl rfl ?_
    obtain ⟨y22, hy22, hf⟩ := bnd hf
    refine Ops.ex (Ex.ixArr f1 hy22 rfl rfl Try.underlying100 sz86) rfl rfl rfl ?_
    refine Ops.load rfl Try.underlying86 rfl (hst19.cell (i := 1) rfl (cU_at hy22)) rfl ?_
    refine Ops.ex (Ex.move rfl) rfl rfl rfl ?_
    refine Ops.ex (Ex.shr32 (a := x18) (m := 256) rfl rfl (by decide) (by decide) (by decide)) rfl rfl rfl ?_
    refine Ops.ex (Ex.xor32 rfl rfl) rfl rfl rfl ?_
    refine Ops.ex (Ex.assign rfl) rfl rfl rfl ?_
    refine Ops.nil ?_
    refine Run.endBlk ?_
    refine Run.region ?_
    refine Ops.ex (Ex.add rfl rfl) rfl rfl rfl ?_
    refine Ops.ex (Ex.move rfl) rfl rfl rfl ?_
    refine Ops.nil ?_
    refine Run.re 10 rfl (congrArg vi (wr_succ' hl3 hc3)) ?_
    exact Run.sub (by exact subB_spec ⟨rfl, rfl, rfl, rfl, rfl, trivial⟩) (Run.stop ⟨p1.length - (i3 + 1), by omega, i3 + 1, y22 ^^^ (shr32 x18 256), z17, rfl, by omega, (hnxb3 _).symm.trans hf, rfl, hz19, hst19⟩)
  · replace hf := forL_out hf (nlt_of_dec hc)
    try dsimp only at hf
    refine Run.exit _ rfl ?_
    refine Run.seq ?_
    refine Run.region ?_
    refine Ops.ex (Ex.move rfl) rfl rfl rfl ?_
    refine Ops.ex (Ex.not32 (a := x18) rfl) rfl rfl rfl ?_
    refine Ops.ex (Ex.assign rfl) rfl rfl rfl ?_
    refine Ops.nil ?_
    obtain rfl := Option.some.inj hf
    exact Run.retV [vu32 (4294967295 ^^^ x18)] rfl ⟨rfl, trivial⟩ ⟨z17, rfl, hz19, hst19⟩
def go_check_Sum (p0 : List UInt8) : Option UInt32 :=
  (go_check_Of 3988292384).bind fun y2 => (go_check_Table_Sum y2 p0).bind fun y6 => some y6
set_option maxRecDepth 100000 in
set_option maxHeartbeats 4000000 in
theorem go_check_Sum.walk {w0 w : World} {X : List Res} {z0 : Zp} {p0 : List UInt8} {A1 : Option Addr} {c1 : Nat} {r : UInt32} (hst : Ht w0 (frz z0 :: X) w) (f1 : Sl tU8 z0 A1 c1 p0) (hf : go_check_Sum p0 = some r) :
    Calls Try.prog 44 #[.slice A1 p0.length c1] w fun e w' => ∃ (z' : Zp), e = .returned (vu32 r) ∧ Le z0 z' ∧ Ht w0 (frz z' :: X) w' := by
  refine calls_np Try.func44 rfl rfl ?_
  have hle0 := Le.refl z0
  unfold go_check_Sum at hf
  refine Run.seq ?_
  refine Run.region ?_
  refine Ops.ex (Ex.assign rfl) rfl rfl rfl ?_
  refine Ops.nil ?_
  refine Run.seq ?_
  refine Run.region ?_
  obtain ⟨y2, hy2, hf⟩ := bnd hf
  refine Ops.call rfl rfl Try.func51 (by kernel_rfl) (by kernel_rfl) rfl (go_check_Of.walk (p0 := 3988292384) (hst := hst) (hf := hy2)) ?_
  rintro _ w2 ⟨z2, rfl, hz2, f3, hst2⟩
  refine ⟨_, rfl, ?_⟩
  replace f1 := f1.mono hz2
  replace hle0 := hle0.trans hz2
  refine Ops.allocF (cU (List.replicate 256 0)) hst2 zr100 (by kernel_rfl) rfl (fun g4 w4 hst4 => ?_)
  refine Ops.storeW 1 hst4 rfl (List.length_replicate) f3 rfl rfl sz100 (fun w5 hst5 => ?_)
  refine Ops.nil ?_
  refine Run.seq ?_
  refine Run.region ?_
  refine Ops.ex (Ex.move rfl) rfl rfl rfl ?_
  obtain ⟨y6, hy6, hf⟩ := bnd hf
  refine Ops.call rfl rfl Try.func52 (by kernel_rfl) (by kernel_rfl) rfl (go_check_Table_Sum.walk (p0 := y2) (p1 := p0) (hst := hst5) (f1 := f3) (f2 := f1) (hf := hy6)) ?_
  rintro _ w6 ⟨z6, rfl, hz6, hst6⟩
  refine ⟨_, rfl, ?_⟩
  replace f1 := f1.mono hz6; replace f3 := f3.mono hz6
  replace hle0 := hle0.trans hz6
  refine Ops.ex (Ex.assign rfl) rfl rfl rfl ?_
  refine Ops.nil ?_
  obtain rfl := Option.some.inj hf
  exact Run.retV [vu32 y6] rfl ⟨rfl, trivial⟩ ⟨z6, rfl, hle0, (St.forget hst6 1)⟩
end
end Go.Proofs.Ytjlhookdigbjhaa.E8
