/- Files: the model. -/
import Derived.Test.YtbonfgnmipmmbaaF6
import Derived.Test.YtbonfgnmipmmbaaGnT
namespace Go.Proofs.Ytbonfgnmipmmbaa.F7
open Go Go.RowKit Go.Proofs.Ytbonfgnmipmmbaa.Sx Go.Proofs.Ytbonfgnmipmmbaa.F1 Go.Proofs.Ytbonfgnmipmmbaa.F2 Go.Proofs.Ytbonfgnmipmmbaa.F3 Go.Proofs.Ytbonfgnmipmmbaa.F4 Go.Proofs.Ytbonfgnmipmmbaa.F5 Go.Proofs.Ytbonfgnmipmmbaa.F6
set_option linter.unusedVariables false
set_option linter.unusedSimpArgs false
noncomputable section
structure law04file where
  b_ : Str
  safe_ : Int
  deriving DecidableEq
def tlaw04file : Ty law04file where
  sz := 2
  R := fun ζ cs x => cs = [vs x.b_, vi x.safe_]
  len := by rintro ζ cs x rfl; rfl
  one := by
    rintro ζ cs x rfl u hu
    simp only [List.mem_cons, List.not_mem_nil, or_false] at hu
    rcases hu with rfl | rfl <;> rfl
  mono := by rintro ζ ζ' cs x rfl hl; exact rfl
structure law04Model where
  now_ : Mp (Option Nat)
  kept_ : Mp (Option Nat)
  wait_ : List (List Str)
  files_ : List (List (Option Nat))
  room_ : Int
  stop_ : Int
  down_ : Bool
  calls_ : Int
  deriving DecidableEq
def tlaw04Model (Γ2 : List Nat) : Ty law04Model where
  sz := 8
  R := fun ζ cs x => ∃ M0 M1 A2 c2 A3 c3, cs = [.map M0, .map M1, .slice A2 x.wait_.length c2, .slice A3 x.files_.length c3, vi x.room_, vi x.stop_, vb x.down_, vi x.calls_] ∧ Mz (tA Γ2) pk1 ζ M0 x.now_ ∧ Mz (tA Γ2) pk1 ζ M1 x.kept_ ∧ Sl (tSl tS) ζ A2 c2 x.wait_ ∧ Sl (tSl (tA Γ2)) ζ A3 c3 x.files_
  len := by rintro ζ cs x ⟨M0, M1, A2, c2, A3, c3, rfl, f0, f1, f2, f3⟩; rfl
  one := by
    rintro ζ cs x ⟨M0, M1, A2, c2, A3, c3, rfl, f0, f1, f2, f3⟩ u hu
    simp only [List.mem_cons, List.not_mem_nil, or_false] at hu
    rcases hu with rfl | rfl | rfl | rfl | rfl | rfl | rfl | rfl <;> rfl
  mono := by rintro ζ ζ' cs x ⟨M0, M1, A2, c2, A3, c3, rfl, f0, f1, f2, f3⟩ hl; exact ⟨M0, M1, A2, c2, A3, c3, rfl, f0.mono hl, f1.mono hl, f2.mono hl, f3.mono hl⟩
theorem tlaw04Model.up {Γ2 Γ' : List Nat} (hG : Γ2 <+: Γ') : TUp (tlaw04Model Γ2) (tlaw04Model Γ') := by
  rintro ζ cs x ⟨M0, M1, A2, c2, A3, c3, rfl, f0, f1, f2, f3⟩
  exact ⟨M0, M1, A2, c2, A3, c3, rfl, (f0.up (tA.up hG)), (f1.up (tA.up hG)), f2, (f3.up (tSl.up (tA.up hG)))⟩
theorem sz56 : (Try.prog.info? 56).map (·.size) = some 1 := by kernel_rfl
def O2 : Zp → Nat → law04file → List Res → Prop := fun ζ g x rs => rs = [blk g [vs x.b_, vi x.safe_] 64]
theorem O2.mono : OMono O2 := by
  rintro ζ ζ' g x rs hl rfl
  exact rfl
def Ar2 (ζ : Zp) (Γ : List Nat) (A : List law04file) (Ha : List Res) : Prop := ArL O2 ζ Γ A Ha
theorem Ar2.mono {ζ ζ' : Zp} {Γ : List Nat} {A : List law04file} {Ha : List Res} (h : Ar2 ζ Γ A Ha) (hl : Le ζ ζ') : Ar2 ζ' Γ A Ha := ArL.mono O2.mono hl h
theorem O2.blk : ∀ ζ g a rs, O2 ζ g a rs → ∃ c T, blk g c T ∈ rs := by
  rintro ζ g a rs rfl
  exact ⟨_, _, List.mem_cons_self ..⟩
theorem sz62 : (Try.prog.info? 62).map (·.size) = some 1 := by kernel_rfl
theorem sz57 : (Try.prog.info? 57).map (·.size) = some 1 := by kernel_rfl
theorem sz58 : (Try.prog.info? 58).map (·.size) = some 1 := by kernel_rfl
theorem sz52 : (Try.prog.info? 52).map (·.size) = some 1 := by kernel_rfl
theorem zr52 : (Try.prog.info? 52).map (·.zero) = some (some (.slice none 0 0)) := by kernel_rfl
theorem inf52 : (Try.prog.info? 52).map (fun i => (i.zero, i.size, i.bytes)) = some (some (.slice none 0 0), 1, 24) := by kernel_rfl
theorem sz86 : (Try.prog.info? 86).map (·.size) = some 1 := by kernel_rfl
theorem zr86 : (Try.prog.info? 86).map (·.zero) = some (some (.slice none 0 0)) := by kernel_rfl
theorem inf86 : (Try.prog.info? 86).map (fun i => (i.zero, i.size, i.bytes)) = some (some (.slice none 0 0), 1, 24) := by kernel_rfl
theorem zr62 : (Try.prog.info? 62).map (·.zero) = some (some (.pointer none)) := by kernel_rfl
theorem zr9 : (Try.prog.info? 9).map (·.zero) = some (some (.string ⟨#[]⟩)) := by kernel_rfl
theorem zr64 : (Try.prog.info? 64).map (·.zero) = some (some (.agg #[.string ⟨#[]⟩, .int .i64 0])) := by kernel_rfl
theorem pl64 {fs : Array Field} (h : Try.prog.underlying 64 = some (.struct fs)) (w : World) : (fs.mapM fun f => do pure (f.offset, ← sizeOf f.type) : Sem (Array (Nat × Nat))).run Try.prog w = .ok #[(0, 1), (1, 1)] w := by
  rw [Try.underlying64] at h
  cases h
  kernel_rfl
theorem sz64 : (Try.prog.info? 64).map (·.size) = some 2 := by kernel_rfl
theorem zr4 : (Try.prog.info? 4).map (·.zero) = some (some (.bool false)) := by kernel_rfl
def go_law04_set (p0 : Mp (Option Nat)) (p1 : Str) (p2 : Option Nat) : Option (Mp (Option Nat)) :=
  if p2 = none then (some (mdel p0 p1)) else (some (mput (mdel p0 p1) p1 p2))
set_option maxRecDepth 100000 in
set_option maxHeartbeats 4000000 in
theorem go_law04_set.walk {w0 w : World} {Γ2 : List Nat} {X : List Res} {z0 : Zp} {p0 : Mp (Option Nat)} {gm1 : Nat} {E1 : Array MapEntry} {c1 : Nat} {p1 : Str} {p2 : Option Nat} {A3 : Option Addr} {r : Mp (Option Nat)} (hst : Ht w0 (frz z0 :: (ob gm1 (.map E1 c1)) :: X) w) (f1 : Mr (tA Γ2) pk1 z0 E1 c1 p0) (f3 : PtA Γ2 A3 p2) (hf : go_law04_set p0 p1 p2 = some r) :
    Calls Try.prog 45 #[.map (some gm1), vs p1, .pointer A3] w fun e w' => ∃ (z' : Zp) (E9001 : Array MapEntry) (c9001 : Nat), e = .returned (.tuple #[]) ∧ Le z0 z' ∧ Mr (tA Γ2) pk1 z' E9001 c9001 r ∧ Ht w0 (frz z' :: (ob gm1 (.map E9001 c9001)) :: X) w' := by
  refine calls_np Try.func45 rfl rfl ?_
  have hle0 := Le.refl z0
  unfold go_law04_set at hf
  refine Run.seq ?_
  refine Run.region ?_
  refine Ops.ex (Ex.move rfl) rfl rfl rfl ?_
  refine Ops.ex (Ex.move rfl) rfl rfl rfl ?_
  refine Ops.mdelO (s := p1) 1 hst rfl f1 rfl rfl rfl rfl Try.underlying56 Try.underlying9 (fun E4 w4 f4 hst4 => ?_)
  refine Ops.nil ?_
  refine Run.seq ?_
  refine Run.region ?_
  refine Ops.ex (Ex.move rfl) rfl rfl rfl ?_
  refine Ops.ex (Ex.neqA f3 rfl rfl Try.underlying62) rfl rfl rfl ?_
  refine Ops.nil ?_
  refine Run.cond rfl (fun hc => ?_) (fun hc => ?_)
  · replace hf := ifF (neq_T hc) hf
    refine Run.region ?_
    refine Ops.ex (Ex.move rfl) rfl rfl rfl ?_
    refine Ops.ex (Ex.move rfl) rfl rfl rfl ?_
    refine Ops.ex (Ex.move rfl) rfl rfl rfl ?_
    refine Ops.mputO (s := p1) (a := p2) (cs := [.pointer A3]) 1 hst4 rfl f4 ⟨_, rfl, f3⟩ rfl rfl rfl Try.underlying56 Try.underlying9 (fun E5 c5 w5 f5 hst5 => ?_)
    refine Ops.nil ?_
    obtain rfl := Option.some.inj hf
    exact Run.doneV [] rfl trivial ⟨z0, E5, c5, rfl, hle0, f5, hst5⟩
  · replace hf := ifT (neq_F hc) hf
    refine Run.skip ?_
    obtain rfl := Option.some.inj hf
    exact Run.doneV [] rfl trivial ⟨z0, E4, c1, rfl, hle0, f4, hst4⟩
def go_law04_Model_call (p0 : law04Model) : Option (Bool × law04Model) :=
  some (!(decide (p0.stop_ = 0)), (⟨p0.now_, p0.kept_, p0.wait_, p0.files_, p0.room_, max (-1) (wr (p0.stop_ - 1)), decide (p0.stop_ = 0), wr (p0.calls_ + 1)⟩ : law04Model))
set_option maxRecDepth 100000 in
set_option maxHeartbeats 4000000 in
theorem go_law04_Model_call.walk {w0 w : World} {Γ2 : List Nat} {X : List Res} {z0 : Zp} {p0 : law04Model} {g0 : Nat} {gm1 : Nat} {E1 : Array MapEntry} {c1 : Nat} {gm2 : Nat} {E2 : Array MapEntry} {c2 : Nat} {A3 : Option Addr} {c3 : Nat} {d3 : List Value} {A4 : Option Addr} {c4 : Nat} {d4 : List Value} {r : Bool × law04Model} (hst : Ht w0 (frz z0 :: (blk g0 [.map (some gm1), .map (some gm2), .slice A3 p0.wait_.length c3, .slice A4 p0.files_.length c4, vi p0.room_, vi p0.stop_, vb p0.down_, vi p0.calls_] 60) :: (ob gm1 (.map E1 c1)) :: (ob gm2 (.map E2 c2)) :: (orow 52 1 (.slice A3 p0.wait_.length c3) p0.wait_.length d3) :: (orow 86 1 (.slice A4 p0.files_.length c4) p0.files_.length d4) :: X) w) (f1 : Mr (tA Γ2) pk1 z0 E1 c1 p0.now_) (f2 : Mr (tA Γ2) pk1 z0 E2 c2 p0.kept_) (f3 : Cs (tSl tS) z0 d3 p0.wait_) (f4 : Cs (tSl (tA Γ2)) z0 d4 p0.files_) (hf : go_law04_Model_call p0 = some r) :
    Calls Try.prog 47 #[.pointer (some ⟨g0, 0, none⟩)] w fun e w' => ∃ (z' : Zp) (gm9002 : Nat) (E9002 : Array MapEntry) (c9002 : Nat) (gm9003 : Nat) (E9003 : Array MapEntry) (c9003 : Nat) (A9004 : Option Addr) (c9004 : Nat) (d9004 : List Value) (A9005 : Option Addr) (c9005 : Nat) (d9005 : List Value), e = .returned (vb r.1) ∧ Le z0 z' ∧ Mr (tA Γ2) pk1 z' E9002 c9002 r.2.now_ ∧ Mr (tA Γ2) pk1 z' E9003 c9003 r.2.kept_ ∧ Cs (tSl tS) z' d9004 r.2.wait_ ∧ Cs (tSl (tA Γ2)) z' d9005 r.2.files_ ∧ Ht w0 (frz z' :: (blk g0 [.map (some gm9002), .map (some gm9003), .slice A9004 r.2.wait_.length c9004, .slice A9005 r.2.files_.length c9005, vi r.2.room_, vi r.2.stop_, vb r.2.down_, vi r.2.calls_] 60) :: (ob gm9002 (.map E9002 c9002)) :: (ob gm9003 (.map E9003 c9003)) :: (orow 52 1 (.slice A9004 r.2.wait_.length c9004) r.2.wait_.length d9004) :: (orow 86 1 (.slice A9005 r.2.files_.length c9005) r.2.files_.length d9005) :: X) w' := by
  refine calls_np Try.func47 rfl rfl ?_
  have hle0 := Le.refl z0
  unfold go_law04_Model_call at hf
  refine Run.seq ?_
  refine Run.region ?_
  refine Ops.ex (Ex.assign rfl) rfl rfl rfl ?_
  refine Ops.nil ?_
  refine Run.seq ?_
  refine Run.region ?_
  refine Ops.ex (Ex.move rfl) rfl rfl rfl ?_
  refine Ops.ex (Ex.nilCheck rfl) rfl rfl rfl ?_
  refine Ops.ex (Ex.fieldAddr rfl Try.underlying60 rfl sz3) rfl rfl rfl ?_
  refine Ops.load rfl Try.underlying3 rfl (hst.cell (i := 1) rfl rfl) rfl ?_
  refine Ops.ex (Ex.add rfl rfl) rfl rfl rfl ?_
  refine Ops.ex (Ex.nilCheck rfl) rfl rfl rfl ?_
  refine Ops.ex (Ex.fieldAddr rfl Try.underlying60 rfl sz3) rfl rfl rfl ?_
  refine Ops.store 1 [vi (wr (p0.calls_ + 1))] hst rfl rfl rfl rfl sz3 rfl (by simp [Value.oneCell']) (by simp) (fun w9 hst9 => ?_)
  refine Ops.nil ?_
  refine Run.seq ?_
  refine Run.region ?_
  refine Ops.ex (Ex.move rfl) rfl rfl rfl ?_
  refine Ops.ex (Ex.move rfl) rfl rfl rfl ?_
  refine Ops.ex (Ex.nilCheck rfl) rfl rfl rfl ?_
  refine Ops.ex (Ex.fieldAddr rfl Try.underlying60 rfl sz3) rfl rfl rfl ?_
  refine Ops.load rfl Try.underlying3 rfl (hst9.cell (i := 1) rfl rfl) rfl ?_
  refine Ops.ex (Ex.eqlI rfl rfl) rfl rfl rfl ?_
  refine Ops.ex (Ex.nilCheck rfl) rfl rfl rfl ?_
  refine Ops.ex (Ex.fieldAddr rfl Try.underlying60 rfl sz4) rfl rfl rfl ?_
  refine Ops.store 1 [vb (decide (p0.stop_ = 0))] hst9 rfl rfl rfl rfl sz4 rfl (by simp [Value.oneCell']) (by simp) (fun w10 hst10 => ?_)
  refine Ops.nil ?_
  refine Run.seq ?_
  refine Run.region ?_
  refine Ops.ex (Ex.move rfl) rfl rfl rfl ?_
  refine Ops.ex (Ex.move rfl) rfl rfl rfl ?_
  refine Ops.ex (Ex.nilCheck rfl) rfl rfl rfl ?_
  refine Ops.ex (Ex.fieldAddr rfl Try.underlying60 rfl sz3) rfl rfl rfl ?_
  refine Ops.load rfl Try.underlying3 rfl (hst10.cell (i := 1) rfl rfl) rfl ?_
  refine Ops.ex (Ex.sub rfl rfl) rfl rfl rfl ?_
  refine Ops.ex (Ex.max2 rfl rfl rfl) rfl rfl rfl ?_
  refine Ops.ex (Ex.nilCheck rfl) rfl rfl rfl ?_
  refine Ops.ex (Ex.fieldAddr rfl Try.underlying60 rfl sz3) rfl rfl rfl ?_
  refine Ops.store 1 [vi (max (-1) (wr (p0.stop_ - 1)))] hst10 rfl rfl rfl rfl sz3 rfl (by simp [Value.oneCell']) (by simp) (fun w11 hst11 => ?_)
  refine Ops.nil ?_
  refine Run.seq ?_
  refine Run.region ?_
  refine Ops.ex (Ex.move rfl) rfl rfl rfl ?_
  refine Ops.ex (Ex.nilCheck rfl) rfl rfl rfl ?_
  refine Ops.ex (Ex.fieldAddr rfl Try.underlying60 rfl sz4) rfl rfl rfl ?_
  refine Ops.load rfl Try.underlying4 rfl (hst11.cell (i := 1) rfl rfl) rfl ?_
  refine Ops.ex (Ex.not rfl) rfl rfl rfl ?_
  refine Ops.ex (Ex.assign rfl) rfl rfl rfl ?_
  refine Ops.nil ?_
  obtain rfl := Option.some.inj hf
  exact Run.retV [vb (!(decide (p0.stop_ = 0)))] rfl ⟨rfl, trivial⟩ ⟨z0, gm1, E1, c1, gm2, E2, c2, A3, c3, d3, A4, c4, d4, rfl, hle0, f1, f2, f3, f4, hst11⟩
def go_law04_Model_used.b1 (ar2 : List law04file) : (Str × Option Nat) → Int → (Int → Option Int) → Option Int :=
  fun a10 x36 nxb10 => (a10.2).bind fun i41 => (ar2[i41]?).bind fun y41 => nxb10 (wr (x36 + (y41.b_.length : Int)))
def go_law04_Model_used (p0 : law04Model) (ar2 : List law04file) : Option Int :=
  forN (go_law04_Model_used.b1 ar2) (fun x36 => some x36) p0.now_.length p0.now_ 0
set_option maxRecDepth 100000 in
set_option maxHeartbeats 4000000 in
theorem go_law04_Model_used.walk {w0 w : World} {Γ2 : List Nat} {X : List Res} {z0 : Zp} {p0 : law04Model} {g0 : Nat} {gm1 : Nat} {E1 : Array MapEntry} {c1 : Nat} {gm2 : Nat} {E2 : Array MapEntry} {c2 : Nat} {A3 : Option Addr} {c3 : Nat} {d3 : List Value} {A4 : Option Addr} {c4 : Nat} {d4 : List Value} {ar2 : List law04file} {Ha2 : List Res} {r : Int} (hst : Ht w0 (frz z0 :: (blk g0 [.map (some gm1), .map (some gm2), .slice A3 p0.wait_.length c3, .slice A4 p0.files_.length c4, vi p0.room_, vi p0.stop_, vb p0.down_, vi p0.calls_] 60) :: (ob gm1 (.map E1 c1)) :: (ob gm2 (.map E2 c2)) :: (orow 52 1 (.slice A3 p0.wait_.length c3) p0.wait_.length d3) :: (orow 86 1 (.slice A4 p0.files_.length c4) p0.files_.length d4) :: (Ha2 ++ X)) w) (f1 : Mr (tA Γ2) pk1 z0 E1 c1 p0.now_) (f2 : Mr (tA Γ2) pk1 z0 E2 c2 p0.kept_) (f3 : Cs (tSl tS) z0 d3 p0.wait_) (f4 : Cs (tSl (tA Γ2)) z0 d4 p0.files_) (hA2 : Ar2 z0 Γ2 ar2 Ha2) (hf : go_law04_Model_used p0 ar2 = some r) :
    Calls Try.prog 34 #[.pointer (some ⟨g0, 0, none⟩)] w fun e w' => ∃ (z' : Zp) (Ha9002 : List Res), e = .returned (vi r) ∧ Le z0 z' ∧ Ar2 z' Γ2 ar2 Ha9002 ∧ Ht w0 (frz z' :: (blk g0 [.map (some gm1), .map (some gm2), .slice A3 p0.wait_.length c3, .slice A4 p0.files_.length c4, vi p0.room_, vi p0.stop_, vb p0.down_, vi p0.calls_] 60) :: (ob gm1 (.map E1 c1)) :: (ob gm2 (.map E2 c2)) :: (orow 52 1 (.slice A3 p0.wait_.length c3) p0.wait_.length d3) :: (orow 86 1 (.slice A4 p0.files_.length c4) p0.files_.length d4) :: (Ha9002 ++ X)) w' := by
  refine calls_np Try.func34 rfl rfl ?_
  have hle0 := Le.refl z0
  unfold go_law04_Model_used at hf
  have hGi2 := List.prefix_rfl (l := Γ2)
  refine Run.seq ?_
  refine Run.region ?_
  refine Ops.ex (Ex.assign rfl) rfl rfl rfl ?_
  refine Ops.nil ?_
  refine Run.seq ?_
  refine Run.region ?_
  refine Ops.ex (Ex.assign rfl) rfl rfl rfl ?_
  refine Ops.nil ?_
  refine Run.seq ?_
  refine Run.seq ?_
  refine Run.region ?_
  refine Ops.ex (Ex.move rfl) rfl rfl rfl ?_
  refine Ops.ex (Ex.nilCheck rfl) rfl rfl rfl ?_
  refine Ops.ex (Ex.fieldAddr rfl Try.underlying60 rfl sz56) rfl rfl rfl ?_
  refine Ops.load rfl Try.underlying56 rfl (hst.cell (i := 1) rfl rfl) rfl ?_
  refine Ops.mrangeO 2 f1 hst rfl rfl Try.underlying56 rfl (fun g9 w9 f9 hst9 => ?_)
  refine Ops.nil ?_
  refine Run.block ?_
  refine Run.sub (e' := [(3, vi 0), (10, .pointer (some ⟨g9, 0, none⟩))]) (subB_spec ⟨rfl, rfl, trivial⟩) ?_
  refine Run.loop (fun mb10 => (fun e' w' => ∃ (mp10 : Mp (Option Nat)) (x36 : Int) (Ha37 : List Res) (q10 : Array Nat) (z35 : Zp), mb10 = mp10.length ∧ forN (go_law04_Model_used.b1 ar2) (fun x36 => some x36) mp10.length mp10 x36 = some r ∧ e' = [(3, vi x36), (10, .pointer (some ⟨g9, 0, none⟩))] ∧ Le z0 z35 ∧ Ar2 z35 Γ2 ar2 Ha37 ∧ Mj (tA Γ2) pk1 z35 E1 c1 q10 mp10 ∧ Ht w0 (frz z35 :: (ob g9 (.mapIter (some gm1) c1 q10 c1)) :: (blk g0 [.map (some gm1), .map (some gm2), .slice A3 p0.wait_.length c3, .slice A4 p0.files_.length c4, vi p0.room_, vi p0.stop_, vb p0.down_, vi p0.calls_] 60) :: (ob gm1 (.map E1 c1)) :: (ob gm2 (.map E2 c2)) :: (orow 52 1 (.slice A3 p0.wait_.length c3) p0.wait_.length d3) :: (orow 86 1 (.slice A4 p0.files_.length c4) p0.files_.length d4) :: (Ha37 ++ X)) w')) p0.now_.length ⟨p0.now_, 0, Ha2, #[], z0, rfl, hf, rfl, hle0, hA2, f9, hst9⟩ ?_
  rintro _ e' w38 ⟨mp10, x36, Ha37, q10, z35, rfl, hf, rfl, hz38, hA37, fM10, hst38⟩
  replace f1 := f1.mono hz38; replace f2 := f2.mono hz38; replace f3 := f3.mono hz38; replace f4 := f4.mono hz38
  refine Run.seq ?_
  refine Run.region ?_
  have hsr10 := Mj.srt fM10
  refine Ops.mnextO 1 3 hst38 rfl rfl fM10 rfl rfl (fun hm0 => ?_) (fun a10 cs39 q39 w39 ham hR39 hC39 hM39 hst39 => ?_)
  · replace hf := forN_nil hf hm0
    try dsimp only at hf
    refine Ops.ex (Ex.extract rfl rfl) rfl rfl rfl ?_
    refine Ops.nil ?_
    refine Run.seq ?_
    refine Run.condF rfl rfl ?_
    refine Run.exit _ rfl ?_
    refine Run.seq ?_
    refine Run.region ?_
    refine Ops.ex (Ex.move rfl) rfl rfl rfl ?_
    refine Ops.ex (Ex.assign rfl) rfl rfl rfl ?_
    refine Ops.nil ?_
    obtain rfl := Option.some.inj hf
    exact Run.retV [vi x36] rfl ⟨rfl, trivial⟩ ⟨z35, Ha37, rfl, hz38, hA37, (St.forget hst38 1)⟩
  · obtain ⟨A40, rfl, f40⟩ := hR39
    obtain ⟨nxb10, hnxb10, hf⟩ := forN_cons hf hsr10 ham
    unfold go_law04_Model_used.b1 at hf
    try dsimp only at hf
    replace hst39 : Ht w0 (frz z35 :: (ob g9 (.mapIter (some gm1) c1 q39 c1)) :: (blk g0 [.map (some gm1), .map (some gm2), .slice A3 p0.wait_.length c3, .slice A4 p0.files_.length c4, vi p0.room_, vi p0.stop_, vb p0.down_, vi p0.calls_] 60) :: (ob gm1 (.map E1 c1)) :: (ob gm2 (.map E2 c2)) :: (orow 52 1 (.slice A3 p0.wait_.length c3) p0.wait_.length d3) :: (orow 86 1 (.slice A4 p0.files_.length c4) p0.files_.length d4) :: (Ha37 ++ X)) _ := hst39
    refine Ops.ex (Ex.extract rfl rfl) rfl rfl rfl ?_
    refine Ops.nil ?_
    refine Run.seq ?_
    refine Run.condT rfl rfl ?_
    refine Run.skip ?_
    refine Run.block ?_
    refine Run.seq ?_
    refine Run.region ?_
    refine Ops.mentryO (i := 1) (j := 3) hst39 rfl rfl hC39 rfl rfl ?_
    refine Ops.ex (Ex.extract rfl rfl) rfl rfl rfl ?_
    refine Ops.ex (Ex.assign rfl) rfl rfl rfl ?_
    refine Ops.nil ?_
    refine Run.region ?_
    refine Ops.ex (Ex.move rfl) rfl rfl rfl ?_
    refine Ops.ex (Ex.move rfl) rfl rfl rfl ?_
    have hm42 := Le.refl z35
    obtain ⟨i41, hi41, hf⟩ := bnd hf
    obtain ⟨y41, hy41, hf⟩ := bnd hf
    obtain ⟨g41, hA41, hg41⟩ := PtA.some f40 hi41
    obtain ⟨rs41, Hr41, hO41, hP41, hcl41, hba41⟩ := ArL.open O2.mono hA37 hg41 hy41
    obtain rfl := hO41
    have hst41 : Ht w0 (frz z35 :: (ob g9 (.mapIter (some gm1) c1 q39 c1)) :: (blk g0 [.map (some gm1), .map (some gm2), .slice A3 p0.wait_.length c3, .slice A4 p0.files_.length c4, vi p0.room_, vi p0.stop_, vb p0.down_, vi p0.calls_] 60) :: (ob gm1 (.map E1 c1)) :: (ob gm2 (.map E2 c2)) :: (orow 52 1 (.slice A3 p0.wait_.length c3) p0.wait_.length d3) :: (orow 86 1 (.slice A4 p0.files_.length c4) p0.files_.length d4) :: (blk g41 [vs y41.b_, vi y41.safe_] 64) :: (Hr41 ++ X)) _ := St.tailP (B := [ob g9 (.mapIter (some gm1) c1 q39 c1), blk g0 [.map (some gm1), .map (some gm2), .slice A3 p0.wait_.length c3, .slice A4 p0.files_.length c4, vi p0.room_, vi p0.stop_, vb p0.down_, vi p0.calls_] 60, ob gm1 (.map E1 c1), ob gm2 (.map E2 c2), orow 52 1 (.slice A3 p0.wait_.length c3) p0.wait_.length d3, orow 86 1 (.slice A4 p0.files_.length c4) p0.files_.length d4]) hst39 hP41
    refine Ops.ex (Ex.nilP hA41 rfl) rfl rfl rfl ?_
    refine Ops.ex (Ex.fieldAddr rfl Try.underlying64 rfl sz9) rfl rfl rfl ?_
    refine Ops.load rfl Try.underlying9 rfl (hst41.cell (i := 7) rfl rfl) rfl ?_
    refine Ops.ex (Ex.lenT rfl rfl rfl Try.underlying9) rfl rfl rfl ?_
    refine Ops.ex (Ex.add rfl rfl) rfl rfl rfl ?_
    refine Ops.ex (Ex.assign rfl) rfl rfl rfl ?_
    refine Ops.nil ?_
    have hA45 : Ar2 z35 Γ2 ar2 ([blk g41 [vs y41.b_, vi y41.safe_] 64] ++ Hr41) := hba41 _ hm42 _ rfl
    have hst45 : Ht w0 (frz z35 :: (ob g9 (.mapIter (some gm1) c1 q39 c1)) :: (blk g0 [.map (some gm1), .map (some gm2), .slice A3 p0.wait_.length c3, .slice A4 p0.files_.length c4, vi p0.room_, vi p0.stop_, vb p0.down_, vi p0.calls_] 60) :: (ob gm1 (.map E1 c1)) :: (ob gm2 (.map E2 c2)) :: (orow 52 1 (.slice A3 p0.wait_.length c3) p0.wait_.length d3) :: (orow 86 1 (.slice A4 p0.files_.length c4) p0.files_.length d4) :: (([blk g41 [vs y41.b_, vi y41.safe_] 64] ++ Hr41) ++ X)) _ := hst41
    refine Run.endBlk ?_
    exact Run.sub (by exact subB_spec ⟨rfl, rfl, trivial⟩) (Run.stop ⟨(mdel mp10 a10.1).length, (by have := mdel_len hsr10 ham; omega), (mdel mp10 a10.1), wr (x36 + (y41.b_.length : Int)), ([blk g41 [vs y41.b_, vi y41.safe_] 64] ++ Hr41), q39, z35, rfl, (hnxb10 _).symm.trans hf, rfl, hz38, hA45, hM39, hst45⟩)
def go_law04_copied.b1 : (Str × Option Nat) → (Mp (Option Nat)) → (Mp (Option Nat) → Option (Mp (Option Nat) × Mp (Option Nat))) → Option (Mp (Option Nat) × Mp (Option Nat)) :=
  fun a4 mp19 nxb4 => nxb4 (mput mp19 a4.1 a4.2)
def go_law04_copied (p0 : Mp (Option Nat)) : Option (Mp (Option Nat) × Mp (Option Nat)) :=
  forN (go_law04_copied.b1) (fun mp19 => some (mp19, p0)) p0.length p0 []
set_option maxRecDepth 100000 in
set_option maxHeartbeats 4000000 in
theorem go_law04_copied.walk {w0 w : World} {Γ2 : List Nat} {X : List Res} {z0 : Zp} {p0 : Mp (Option Nat)} {gm1 : Nat} {E1 : Array MapEntry} {c1 : Nat} {r : Mp (Option Nat) × Mp (Option Nat)} (hst : Ht w0 (frz z0 :: (ob gm1 (.map E1 c1)) :: X) w) (f1 : Mr (tA Γ2) pk1 z0 E1 c1 p0) (hf : go_law04_copied p0 = some r) :
    Calls Try.prog 46 #[.map (some gm1)] w fun e w' => ∃ (z' : Zp) (gm9001 : Nat) (E9001 : Array MapEntry) (c9001 : Nat) (E9002 : Array MapEntry) (c9002 : Nat), e = .returned (.map (some gm9001)) ∧ Le z0 z' ∧ Mr (tA Γ2) pk1 z' E9001 c9001 r.1 ∧ Mr (tA Γ2) pk1 z' E9002 c9002 r.2 ∧ Ht w0 (frz z' :: (ob gm1 (.map E9002 c9002)) :: (ob gm9001 (.map E9001 c9001)) :: X) w' := by
  refine calls_np Try.func46 rfl rfl ?_
  have hle0 := Le.refl z0
  unfold go_law04_copied at hf
  refine Run.seq ?_
  refine Run.region ?_
  refine Ops.ex (Ex.assign rfl) rfl rfl rfl ?_
  refine Ops.nil ?_
  refine Run.seq ?_
  refine Run.region ?_
  refine Ops.mkmap hst rfl (fun g2 w2 hst2 => ?_)
  refine Ops.ex (Ex.assign rfl) rfl rfl rfl ?_
  refine Ops.nil ?_
  refine Run.seq ?_
  refine Run.seq ?_
  refine Run.region ?_
  refine Ops.ex (Ex.move rfl) rfl rfl rfl ?_
  refine Ops.mrangeO 2 f1 hst2 rfl rfl Try.underlying56 rfl (fun g3 w3 f3 hst3 => ?_)
  refine Ops.nil ?_
  refine Run.block ?_
  refine Run.sub (e' := [(3, .map (some g2)), (8, .pointer (some ⟨g3, 0, none⟩))]) (subB_spec ⟨rfl, rfl, trivial⟩) ?_
  refine Run.loop (fun mb4 => (fun e' w' => ∃ (mp4 : Mp (Option Nat)) (mp19 : Mp (Option Nat)) (g19 : Nat) (E19 : Array MapEntry) (c19 : Nat) (q4 : Array Nat) (z18 : Zp), mb4 = mp4.length ∧ forN (go_law04_copied.b1) (fun mp19 => some (mp19, p0)) mp4.length mp4 mp19 = some r ∧ e' = [(3, .map (some g19)), (8, .pointer (some ⟨g3, 0, none⟩))] ∧ Le z0 z18 ∧ Mr (tA Γ2) pk1 z18 E19 c19 mp19 ∧ Mj (tA Γ2) pk1 z18 E1 c1 q4 mp4 ∧ Ht w0 (frz z18 :: (ob g19 (.map E19 c19)) :: (ob g3 (.mapIter (some gm1) c1 q4 c1)) :: (ob gm1 (.map E1 c1)) :: X) w')) p0.length ⟨p0, [], g2, #[], 0, #[], z0, rfl, hf, rfl, hle0, (Mr.nil (tA Γ2) pk1 _), f3, (St.up (St.up (St.up (St.up hst3 3 rfl) 2 rfl) 3 rfl) 3 rfl)⟩ ?_
  rintro _ e' w20 ⟨mp4, mp19, g19, E19, c19, q4, z18, rfl, hf, rfl, hz20, f19, fM4, hst20⟩
  replace f1 := f1.mono hz20
  refine Run.seq ?_
  refine Run.region ?_
  have hsr4 := Mj.srt fM4
  refine Ops.mnextO 2 3 hst20 rfl rfl fM4 rfl rfl (fun hm0 => ?_) (fun a4 cs21 q21 w21 ham hR21 hC21 hM21 hst21 => ?_)
  · replace hf := forN_nil hf hm0
    try dsimp only at hf
    refine Ops.ex (Ex.extract rfl rfl) rfl rfl rfl ?_
    refine Ops.nil ?_
    refine Run.seq ?_
    refine Run.condF rfl rfl ?_
    refine Run.exit _ rfl ?_
    refine Run.seq ?_
    refine Run.region ?_
    refine Ops.ex (Ex.move rfl) rfl rfl rfl ?_
    refine Ops.ex (Ex.assign rfl) rfl rfl rfl ?_
    refine Ops.nil ?_
    obtain rfl := Option.some.inj hf
    exact Run.retV [.map (some g19)] rfl ⟨rfl, trivial⟩ ⟨z18, g19, E19, c19, E1, c1, rfl, hz20, f19, f1, (St.up (St.up (St.up (St.forget hst20 2) 1 rfl) 2 rfl) 2 rfl)⟩
  · obtain ⟨A22, rfl, f22⟩ := hR21
    obtain ⟨nxb4, hnxb4, hf⟩ := forN_cons hf hsr4 ham
    unfold go_law04_copied.b1 at hf
    try dsimp only at hf
    replace hst21 : Ht w0 (frz z18 :: (ob g19 (.map E19 c19)) :: (ob g3 (.mapIter (some gm1) c1 q21 c1)) :: (ob gm1 (.map E1 c1)) :: X) _ := hst21
    refine Ops.ex (Ex.extract rfl rfl) rfl rfl rfl ?_
    refine Ops.nil ?_
    refine Run.seq ?_
    refine Run.condT rfl rfl ?_
    refine Run.skip ?_
    refine Run.block ?_
    refine Run.seq ?_
    refine Run.region ?_
    refine Ops.mentryO (i := 2) (j := 3) hst21 rfl rfl hC21 rfl rfl ?_
    refine Ops.ex (Ex.extract rfl rfl) rfl rfl rfl ?_
    refine Ops.ex (Ex.extract rfl rfl) rfl rfl rfl ?_
    refine Ops.ex (Ex.assign rfl) rfl rfl rfl ?_
    refine Ops.ex (Ex.assign rfl) rfl rfl rfl ?_
    refine Ops.nil ?_
    refine Run.region ?_
    refine Ops.ex (Ex.move rfl) rfl rfl rfl ?_
    refine Ops.ex (Ex.move rfl) rfl rfl rfl ?_
    refine Ops.ex (Ex.move rfl) rfl rfl rfl ?_
    refine Ops.mputO (s := a4.1) (a := a4.2) (cs := [.pointer A22]) 1 hst21 rfl f19 ⟨_, rfl, f22⟩ rfl rfl rfl Try.underlying56 Try.underlying9 (fun E23 c23 w23 f23 hst23 => ?_)
    refine Ops.nil ?_
    refine Run.endBlk ?_
    exact Run.sub (by exact subB_spec ⟨rfl, rfl, trivial⟩) (Run.stop ⟨(mdel mp4 a4.1).length, (by have := mdel_len hsr4 ham; omega), (mdel mp4 a4.1), (mput mp19 a4.1 a4.2), g19, E23, c23, q21, z18, rfl, (hnxb4 _).symm.trans hf, rfl, hz20, f23, hM21, hst23⟩)
def go_law04_Model_change.j1 (p0 : law04Model) (mp124 : Mp (Option Nat)) (l157 : List (List Str)) (l158 : List (List (Option Nat))) : Option law04Model :=
  some (⟨mp124, p0.kept_, l157, l158, p0.room_, p0.stop_, p0.down_, p0.calls_⟩ : law04Model)
def go_law04_Model_change.b1 (p2 : List (Option Nat)) (i11 : Nat) (a11 : Str) : (Mp (Option Nat)) → (Mp (Option Nat) → Option law04Model) → Option law04Model :=
  fun mp124 nxb11 => (atI p2 (i11 : Int)).bind fun y130 => (go_law04_set mp124 a11 y130).bind fun y133 => nxb11 y133
def go_law04_Model_change (p0 : law04Model) (p1 : List Str) (p2 : List (Option Nat)) : Option law04Model :=
  forL (go_law04_Model_change.b1 p2) (fun mp124 => (apB 24 p0.wait_ [p1]).bind fun l161 => (apB 24 p0.files_ [p2]).bind fun l163 => go_law04_Model_change.j1 p0 mp124 l161 l163) 0 p1 p0.now_
set_option maxRecDepth 100000 in
set_option maxHeartbeats 4000000 in
theorem go_law04_Model_change.walk {w0 w : World} {Γ2 : List Nat} {X : List Res} {z0 : Zp} {p0 : law04Model} {g0 : Nat} {gm1 : Nat} {E1 : Array MapEntry} {c1 : Nat} {gm2 : Nat} {E2 : Array MapEntry} {c2 : Nat} {A3 : Option Addr} {c3 : Nat} {d3 : List Value} {A4 : Option Addr} {c4 : Nat} {d4 : List Value} {p1 : List Str} {A9 : Option Addr} {c9 : Nat} {p2 : List (Option Nat)} {A10 : Option Addr} {c10 : Nat} {r : law04Model} (hst : Ht w0 (frz z0 :: (blk g0 [.map (some gm1), .map (some gm2), .slice A3 p0.wait_.length c3, .slice A4 p0.files_.length c4, vi p0.room_, vi p0.stop_, vb p0.down_, vi p0.calls_] 60) :: (ob gm1 (.map E1 c1)) :: (ob gm2 (.map E2 c2)) :: (orow 52 1 (.slice A3 p0.wait_.length c3) p0.wait_.length d3) :: (orow 86 1 (.slice A4 p0.files_.length c4) p0.files_.length d4) :: X) w) (f1 : Mr (tA Γ2) pk1 z0 E1 c1 p0.now_) (f2 : Mr (tA Γ2) pk1 z0 E2 c2 p0.kept_) (f3 : Cs (tSl tS) z0 d3 p0.wait_) (f4 : Cs (tSl (tA Γ2)) z0 d4 p0.files_) (f9 : Sl tS z0 A9 c9 p1) (f10 : Sl (tA Γ2) z0 A10 c10 p2) (hf : go_law04_Model_change p0 p1 p2 = some r) :
    Calls Try.prog 48 #[.pointer (some ⟨g0, 0, none⟩), .slice A9 p1.length c9, .slice A10 p2.length c10] w fun e w' => ∃ (z' : Zp) (gm9001 : Nat) (E9001 : Array MapEntry) (c9001 : Nat) (gm9002 : Nat) (E9002 : Array MapEntry) (c9002 : Nat) (A9003 : Option Addr) (c9003 : Nat) (d9003 : List Value) (A9004 : Option Addr) (c9004 : Nat) (d9004 : List Value), e = .returned (.tuple #[]) ∧ Le z0 z' ∧ Mr (tA Γ2) pk1 z' E9001 c9001 r.now_ ∧ Mr (tA Γ2) pk1 z' E9002 c9002 r.kept_ ∧ Cs (tSl tS) z' d9003 r.wait_ ∧ Cs (tSl (tA Γ2)) z' d9004 r.files_ ∧ Ht w0 (frz z' :: (blk g0 [.map (some gm9001), .map (some gm9002), .slice A9003 r.wait_.length c9003, .slice A9004 r.files_.length c9004, vi r.room_, vi r.stop_, vb r.down_, vi r.calls_] 60) :: (ob gm9001 (.map E9001 c9001)) :: (ob gm9002 (.map E9002 c9002)) :: (orow 52 1 (.slice A9003 r.wait_.length c9003) r.wait_.length d9003) :: (orow 86 1 (.slice A9004 r.files_.length c9004) r.files_.length d9004) :: X) w' := by
  refine calls_np Try.func48 rfl rfl ?_
  have hle0 := Le.refl z0
  unfold go_law04_Model_change at hf
  refine Run.seq ?_
  refine Run.seq ?_
  refine Run.region ?_
  refine Ops.ex (Ex.move rfl) rfl rfl rfl ?_
  refine Ops.ex (Ex.len' rfl rfl rfl Try.underlying52) rfl rfl rfl ?_
  refine Ops.ex (Ex.move rfl) rfl rfl rfl ?_
  refine Ops.nil ?_
  refine Run.block ?_
  have hc11 := f9.cap
  refine Run.sub (e' := [(0, .pointer (some ⟨g0, 0, none⟩)), (1, .slice A9 p1.length c9), (2, .slice A10 p2.length c10), (8, .slice A9 p1.length c9), (9, vi (p1.length : Int)), (10, vi ((0 : Nat) : Int))]) (subB_spec ⟨rfl, rfl, rfl, rfl, rfl, rfl, trivial⟩) ?_
  refine Run.loop (fun mb11 => (fun e' w' => ∃ (i11 : Nat) (mp124 : Mp (Option Nat)) (g124 : Nat) (E124 : Array MapEntry) (c124 : Nat) (z123 : Zp), mb11 = p1.length - i11 ∧ i11 ≤ p1.length ∧ forL (go_law04_Model_change.b1 p2) (fun mp124 => (apB 24 p0.wait_ [p1]).bind fun l161 => (apB 24 p0.files_ [p2]).bind fun l163 => go_law04_Model_change.j1 p0 mp124 l161 l163) i11 (p1.drop i11) mp124 = some r ∧ e' = [(0, .pointer (some ⟨g0, 0, none⟩)), (1, .slice A9 p1.length c9), (2, .slice A10 p2.length c10), (8, .slice A9 p1.length c9), (9, vi (p1.length : Int)), (10, vi (i11 : Int))] ∧ Le z0 z123 ∧ Mr (tA Γ2) pk1 z123 E124 c124 mp124 ∧ Ht w0 (frz z123 :: (ob g124 (.map E124 c124)) :: (blk g0 [.map (some g124), .map (some gm2), .slice A3 p0.wait_.length c3, .slice A4 p0.files_.length c4, vi p0.room_, vi p0.stop_, vb p0.down_, vi p0.calls_] 60) :: (ob gm2 (.map E2 c2)) :: (orow 52 1 (.slice A3 p0.wait_.length c3) p0.wait_.length d3) :: (orow 86 1 (.slice A4 p0.files_.length c4) p0.files_.length d4) :: X) w')) p1.length ⟨0, p0.now_, gm1, E1, c1, z0, rfl, Nat.zero_le _, hf, rfl, hle0, f1, (St.up (St.up (St.up (St.up (St.up (St.up hst 5 rfl) 5 rfl) 5 rfl) 4 rfl) 5 rfl) 5 rfl)⟩ ?_
  rintro _ e' w125 ⟨i11, mp124, g124, E124, c124, z123, rfl, hi11, hf, rfl, hz125, f124, hst125⟩
  replace f9 := f9.mono hz125; replace f10 := f10.mono hz125; replace f2 := f2.mono hz125; replace f3 := f3.mono hz125; replace f4 := f4.mono hz125
  refine Run.seq ?_
  refine Run.region ?_
  refine Ops.ex (Ex.lss rfl rfl) rfl rfl rfl ?_
  refine Ops.nil ?_
  refine Run.seq ?_
  refine Run.cond rfl (fun hc => ?_) (fun hc => ?_)
  · have hl11 := lt_of_dec hc
    obtain ⟨a11, nxb11, ha11, hnxb11, hf⟩ := forL_in hf hl11
    unfold go_law04_Model_change.b1 at hf
    try dsimp only at hf
    refine Run.skip ?_
    refine Run.seq ?_
    refine Run.block ?_
    refine Run.seq ?_
    refine Run.region ?_
    refine Ops.ex (Ex.move rfl) rfl rfl rfl ?_
    obtain ⟨g127, p127, o127, cs127, hA127, ho127, hr127, f127⟩ := SlH.elem f9.toH (atI_nat ha11)
    obtain rfl := hr127
    refine Ops.ex (Ex.ixA hA127 ho127 (atI_nat ha11) rfl rfl rfl Try.underlying52 sz9) rfl rfl rfl ?_
    refine Ops.load rfl Try.underlying9 rfl ((f127.mono hst125.le) 0 _ rfl) rfl ?_
    refine Ops.ex (Ex.assign rfl) rfl rfl rfl ?_
    refine Ops.ex (Ex.assign rfl) rfl rfl rfl ?_
    refine Ops.nil ?_
    have hm129 := Le.refl z123
    refine Run.drawH [([], fun w => ∃ ζ Y, Le z123 ζ ∧ Ht w0 (frz ζ :: (blk g0 [.map (some g124), .map (some gm2), .slice A3 p0.wait_.length c3, .slice A4 p0.files_.length c4, vi p0.room_, vi p0.stop_, vb p0.down_, vi p0.calls_] 60) :: (ob gm2 (.map E2 c2)) :: (orow 52 1 (.slice A3 p0.wait_.length c3) p0.wait_.length d3) :: (orow 86 1 (.slice A4 p0.files_.length c4) p0.files_.length d4) :: Y) w), ([9], fun w => ∃ ζ Y, Le z123 ζ ∧ Ht w0 (frz ζ :: (ob g124 (.map E124 c124)) :: Y) w)] (by kernel_rfl) hst125 (fun w128 hst128 => ?_)
    have hS0 := (⟨_, _, (Le.refl _), (St.up (St.up (St.up (St.up (St.up hst128 5 rfl) 5 rfl) 5 rfl) 5 rfl) 4 rfl)⟩ : (fun w => ∃ ζ Y, Le z123 ζ ∧ Ht w0 (frz ζ :: (blk g0 [.map (some g124), .map (some gm2), .slice A3 p0.wait_.length c3, .slice A4 p0.files_.length c4, vi p0.room_, vi p0.stop_, vb p0.down_, vi p0.calls_] 60) :: (ob gm2 (.map E2 c2)) :: (orow 52 1 (.slice A3 p0.wait_.length c3) p0.wait_.length d3) :: (orow 86 1 (.slice A4 p0.files_.length c4) p0.files_.length d4) :: Y) w) _)
    have hS1 := (⟨_, _, (Le.refl _), (St.up (St.up hst128 1 rfl) 1 rfl)⟩ : (fun w => ∃ ζ Y, Le z123 ζ ∧ Ht w0 (frz ζ :: (ob g124 (.map E124 c124)) :: Y) w) _)
    refine Any.takeE 0 rfl rfl rfl rfl (by kernel_rfl) (fun _ _ _ _ _ h => h) ((Ex.move rfl).s) ?_
    refine Any.takeE 1 rfl rfl rfl rfl (by kernel_rfl) (fun _ _ _ _ _ h => h) ((Ex.nilCheck rfl).s) ?_
    refine Any.takeE 2 rfl rfl rfl rfl (by kernel_rfl) (fun _ _ _ _ _ h => h) ((Ex.fieldAddr rfl Try.underlying60 rfl sz56).s) ?_
    refine Any.take 0 3 rfl rfl rfl rfl rfl (by kernel_rfl) (fun _ _ _ _ _ h => h) (ExS.load rfl Try.underlying56 rfl (fun w hS => by obtain ⟨_, _, _, hs⟩ := hS; exact hs.cell (i := 1) rfl rfl)) hS0 ?_
    refine Any.takeE 4 rfl rfl rfl rfl (by kernel_rfl) (fun _ _ _ _ _ h => h) ((Ex.move rfl).s) ?_
    refine Any.takeE 5 rfl rfl rfl rfl (by kernel_rfl) (fun _ _ _ _ _ h => h) ((Ex.move rfl).s) ?_
    refine Any.takeE 6 rfl rfl rfl rfl (by kernel_rfl) (fun _ _ _ _ _ h => h) ((Ex.move rfl).s) ?_
    obtain ⟨y130, hy130, hf⟩ := bnd hf
    obtain ⟨g132, p132, o132, cs132, hA132, ho132, hr132, f132⟩ := SlH.elem f10.toH hy130
    obtain ⟨A131, rfl, f131⟩ := hr132
    refine Any.takeE 7 rfl rfl rfl rfl (by kernel_rfl) (fun _ _ _ _ _ h => h) ((Ex.ixA hA132 ho132 hy130 rfl rfl rfl Try.underlying86 sz62).s) ?_
    refine Any.take 0 8 rfl rfl rfl rfl rfl (by kernel_rfl) (fun _ _ _ _ _ h => h) (ExS.load rfl Try.underlying62 rfl (fun w hS => by obtain ⟨_, _, hz, hs⟩ := hS; exact (f132.mono (hz.trans hs.le)) 0 _ rfl)) hS0 ?_
    obtain ⟨y133, hy133, hf⟩ := bnd hf
    refine Any.one 9 (by kernel_rfl) rfl rfl (One.of_ops rfl ?_)
    refine Ops.call rfl rfl Try.func45 (by kernel_rfl) (by kernel_rfl) rfl (go_law04_set.walk (Γ2 := Γ2) (p0 := mp124) (p1 := a11) (p2 := y130) (hst := hst128) (f1 := f124) (f3 := f131) (hf := hy133)) ?_
    rintro _ w133 ⟨z133, E134, c134, rfl, hz133, f134, hst133⟩
    refine ⟨_, rfl, Ops.stop ?_⟩
    replace f9 := f9.mono hz133; replace f10 := f10.mono hz133; replace f127 := f127.mono hz133; replace f132 := f132.mono hz133; replace f131 := f131.mono hz133; replace f2 := f2.mono hz133; replace f3 := f3.mono hz133; replace f4 := f4.mono hz133
    replace hz125 := hz125.trans hz133
    replace hm129 := hm129.trans hz133
    have hS0 := (⟨_, _, hm129, (St.up (St.up (St.up (St.up (St.up hst133 5 rfl) 5 rfl) 5 rfl) 5 rfl) 4 rfl)⟩ : (fun w => ∃ ζ Y, Le z123 ζ ∧ Ht w0 (frz ζ :: (blk g0 [.map (some g124), .map (some gm2), .slice A3 p0.wait_.length c3, .slice A4 p0.files_.length c4, vi p0.room_, vi p0.stop_, vb p0.down_, vi p0.calls_] 60) :: (ob gm2 (.map E2 c2)) :: (orow 52 1 (.slice A3 p0.wait_.length c3) p0.wait_.length d3) :: (orow 86 1 (.slice A4 p0.files_.length c4) p0.files_.length d4) :: Y) w) _)
    refine ⟨⟨.inr (fun _ => hS0), .inl (by decide), trivial⟩, ?_⟩
    refine Any.done (by kernel_rfl) ?_
    refine Run.endBlk ?_
    refine Run.region ?_
    refine Ops.ex (Ex.add rfl rfl) rfl rfl rfl ?_
    refine Ops.ex (Ex.move rfl) rfl rfl rfl ?_
    refine Ops.nil ?_
    refine Run.re 10 rfl (congrArg vi (wr_succ' hl11 hc11)) ?_
    exact Run.sub (by exact subB_spec ⟨rfl, rfl, rfl, rfl, rfl, rfl, trivial⟩) (Run.stop ⟨p1.length - (i11 + 1), by omega, i11 + 1, y133, g124, E134, c134, z133, rfl, by omega, (hnxb11 _).symm.trans hf, rfl, hz125, f134, hst133⟩)
  · replace hf := forL_out hf (nlt_of_dec hc)
    try dsimp only at hf
    refine Run.exit _ rfl ?_
    have hm155 := Le.refl z123
    apply Run.jn (fun e' w' => ∃ (l157 : List (List Str)) (l158 : List (List (Option Nat))) (A157 : Option Addr) (c157 : Nat) (d157 : List Value) (A158 : Option Addr) (c158 : Nat) (d158 : List Value) (z156 : Zp), go_law04_Model_change.j1 p0 mp124 l157 l158 = some r ∧ e' = [] ∧ Le z123 z156 ∧ Le z0 z156 ∧ Cs (tSl tS) z156 d157 l157 ∧ Cs (tSl (tA Γ2)) z156 d158 l158 ∧ Ht w0 (frz z156 :: (orow 52 1 (.slice A157 l157.length c157) l157.length d157) :: (orow 86 1 (.slice A158 l158.length c158) l158.length d158) :: (ob g124 (.map E124 c124)) :: (blk g0 [.map (some g124), .map (some gm2), .slice A157 l157.length c157, .slice A158 l158.length c158, vi p0.room_, vi p0.stop_, vb p0.down_, vi p0.calls_] 60) :: (ob gm2 (.map E2 c2)) :: X) w')
    · intro hj135
      refine Run.drawH [([], fun w => ∃ ζ Y, Le z123 ζ ∧ Ht w0 (frz ζ :: Y) w), ([18, 21], fun w => ∃ ζ Y, Le z123 ζ ∧ Ht w0 (frz ζ :: (blk g0 [.map (some g124), .map (some gm2), .slice A3 p0.wait_.length c3, .slice A4 p0.files_.length c4, vi p0.room_, vi p0.stop_, vb p0.down_, vi p0.calls_] 60) :: Y) w)] (by kernel_rfl) hst125 (fun w159 hst159 => ?_)
      have hS0 := (⟨_, _, (Le.refl _), hst159⟩ : (fun w => ∃ ζ Y, Le z123 ζ ∧ Ht w0 (frz ζ :: Y) w) _)
      have hS1 := (⟨_, _, (Le.refl _), (St.up (St.up hst159 2 rfl) 1 rfl)⟩ : (fun w => ∃ ζ Y, Le z123 ζ ∧ Ht w0 (frz ζ :: (blk g0 [.map (some g124), .map (some gm2), .slice A3 p0.wait_.length c3, .slice A4 p0.files_.length c4, vi p0.room_, vi p0.stop_, vb p0.down_, vi p0.calls_] 60) :: Y) w) _)
      refine Any.takeE 0 rfl rfl rfl rfl (by kernel_rfl) (fun _ _ _ _ _ h => h) ((Ex.move rfl).s) ?_
      refine Any.takeE 1 rfl rfl rfl rfl (by kernel_rfl) (fun _ _ _ _ _ h => h) ((Ex.move rfl).s) ?_
      refine Any.takeE 2 rfl rfl rfl rfl (by kernel_rfl) (fun _ _ _ _ _ h => h) ((Ex.move rfl).s) ?_
      refine Any.takeE 3 rfl rfl rfl rfl (by kernel_rfl) (fun _ _ _ _ _ h => h) ((Ex.nilCheck rfl).s) ?_
      refine Any.takeE 4 rfl rfl rfl rfl (by kernel_rfl) (fun _ _ _ _ _ h => h) ((Ex.fieldAddr rfl Try.underlying60 rfl sz57).s) ?_
      refine Any.take 1 5 rfl rfl rfl rfl rfl (by kernel_rfl) (fun _ _ _ _ _ h => h) (ExS.load rfl Try.underlying57 rfl (fun w hS => by obtain ⟨_, _, _, hs⟩ := hS; exact hs.cell (i := 1) rfl rfl)) hS1 ?_
      refine Any.takeE 6 rfl rfl rfl rfl (by kernel_rfl) (fun _ _ _ _ _ h => h) ((Ex.move rfl).s) ?_
      refine Any.takeE 9 rfl rfl rfl rfl (by kernel_rfl) (fun _ _ _ _ _ h => h) ((Ex.move rfl).s) ?_
      refine Any.takeE 10 rfl rfl rfl rfl (by kernel_rfl) (fun _ _ _ _ _ h => h) ((Ex.nilCheck rfl).s) ?_
      refine Any.takeE 11 rfl rfl rfl rfl (by kernel_rfl) (fun _ _ _ _ _ h => h) ((Ex.fieldAddr rfl Try.underlying60 rfl sz58).s) ?_
      refine Any.take 1 12 rfl rfl rfl rfl rfl (by kernel_rfl) (fun _ _ _ _ _ h => h) (ExS.load rfl Try.underlying58 rfl (fun w hS => by obtain ⟨_, _, _, hs⟩ := hS; exact hs.cell (i := 1) rfl rfl)) hS1 ?_
      refine Any.takeE 13 rfl rfl rfl rfl (by kernel_rfl) (fun _ _ _ _ _ h => h) ((Ex.move rfl).s) ?_
      refine Any.all [7, 14] (by kernel_rfl) rfl (fun i hi => ?_)
      simp only [List.mem_cons, List.not_mem_nil, or_false] at hi
      rcases hi with rfl | rfl
      · skip
        refine ⟨_, rfl, rfl, One.of_ops rfl ?_⟩
        refine Ops.sliceF [.slice A9 p1.length c9] hst159 rfl Try.underlying57 sz52 zr52 rfl rfl (by kernel_rfl) rfl (by simp [Value.oneCell']) rfl (fun A160 w160 hst160 => Ops.stop ?_)
        have f160 : Cs (tSl tS) z123 [.slice A9 p1.length c9] [p1] := (Cs.cons (c := [.slice A9 p1.length c9]) ⟨_, _, rfl, f9⟩ (Cs.nil _ _))
        have hS0 := (⟨_, _, (Le.refl _), hst160⟩ : (fun w => ∃ ζ Y, Le z123 ζ ∧ Ht w0 (frz ζ :: Y) w) _)
        have hS1 := (⟨_, _, (Le.refl _), (St.up (St.up hst160 3 rfl) 1 rfl)⟩ : (fun w => ∃ ζ Y, Le z123 ζ ∧ Ht w0 (frz ζ :: (blk g0 [.map (some g124), .map (some gm2), .slice A3 p0.wait_.length c3, .slice A4 p0.files_.length c4, vi p0.room_, vi p0.stop_, vb p0.down_, vi p0.calls_] 60) :: Y) w) _)
        refine ⟨⟨.inr (fun _ => hS0), .inr (fun _ => hS1), trivial⟩, ?_⟩
        refine Any.all [8, 14] (by kernel_rfl) rfl (fun i hi => ?_)
        simp only [List.mem_cons, List.not_mem_nil, or_false] at hi
        rcases hi with rfl | rfl
        · skip
          obtain ⟨l161, hy161, hf⟩ := bnd hf
          refine ⟨_, rfl, rfl, One.of_ops rfl ?_⟩
          refine Ops.app 5 hst160 rfl f3 rfl (own_slh f160 rfl (hst160.get (i := 1) rfl)) rfl hy161 rfl rfl rfl rfl Try.underlying57 inf52 rfl (by decide) (by decide) rfl (fun A161 c161 d161 w161 f161 hst161 => Ops.stop ?_)
          have hS0 := (⟨_, _, (Le.refl _), hst161⟩ : (fun w => ∃ ζ Y, Le z123 ζ ∧ Ht w0 (frz ζ :: Y) w) _)
          have hS1 := (⟨_, _, (Le.refl _), (St.up (St.up hst161 3 rfl) 1 rfl)⟩ : (fun w => ∃ ζ Y, Le z123 ζ ∧ Ht w0 (frz ζ :: (blk g0 [.map (some g124), .map (some gm2), .slice A3 p0.wait_.length c3, .slice A4 p0.files_.length c4, vi p0.room_, vi p0.stop_, vb p0.down_, vi p0.calls_] 60) :: Y) w) _)
          refine ⟨⟨.inr (fun _ => hS0), .inr (fun _ => hS1), trivial⟩, ?_⟩
          refine Any.one 14 (by kernel_rfl) rfl rfl (One.of_ops rfl ?_)
          refine Ops.sliceF [.slice A10 p2.length c10] hst161 rfl Try.underlying58 sz86 zr86 rfl rfl (by kernel_rfl) rfl (by simp [Value.oneCell']) rfl (fun A162 w162 hst162 => Ops.stop ?_)
          have f162 : Cs (tSl (tA Γ2)) z123 [.slice A10 p2.length c10] [p2] := (Cs.cons (c := [.slice A10 p2.length c10]) ⟨_, _, rfl, f10⟩ (Cs.nil _ _))
          have hS0 := (⟨_, _, (Le.refl _), hst162⟩ : (fun w => ∃ ζ Y, Le z123 ζ ∧ Ht w0 (frz ζ :: Y) w) _)
          have hS1 := (⟨_, _, (Le.refl _), (St.up (St.up hst162 4 rfl) 1 rfl)⟩ : (fun w => ∃ ζ Y, Le z123 ζ ∧ Ht w0 (frz ζ :: (blk g0 [.map (some g124), .map (some gm2), .slice A3 p0.wait_.length c3, .slice A4 p0.files_.length c4, vi p0.room_, vi p0.stop_, vb p0.down_, vi p0.calls_] 60) :: Y) w) _)
          refine ⟨⟨.inr (fun _ => hS0), .inr (fun _ => hS1), trivial⟩, ?_⟩
          obtain ⟨l163, hy163, hf⟩ := bnd hf
          refine Any.one 15 (by kernel_rfl) rfl rfl (One.of_ops rfl ?_)
          refine Ops.app 7 hst162 rfl f4 rfl (own_slh f162 rfl (hst162.get (i := 1) rfl)) rfl hy163 rfl rfl rfl rfl Try.underlying58 inf86 rfl (by first | decide | exact Nat.succ_pos _) (by first | decide | exact Nat.succ_pos _) rfl (fun A163 c163 d163 w163 f163 hst163 => Ops.stop ?_)
          have hS0 := (⟨_, _, (Le.refl _), hst163⟩ : (fun w => ∃ ζ Y, Le z123 ζ ∧ Ht w0 (frz ζ :: Y) w) _)
          have hS1 := (⟨_, _, (Le.refl _), (St.up (St.up hst163 4 rfl) 1 rfl)⟩ : (fun w => ∃ ζ Y, Le z123 ζ ∧ Ht w0 (frz ζ :: (blk g0 [.map (some g124), .map (some gm2), .slice A3 p0.wait_.length c3, .slice A4 p0.files_.length c4, vi p0.room_, vi p0.stop_, vb p0.down_, vi p0.calls_] 60) :: Y) w) _)
          refine ⟨⟨.inr (fun _ => hS0), .inr (fun _ => hS1), trivial⟩, ?_⟩
          refine Any.takeE 16 rfl rfl rfl rfl (by kernel_rfl) (fun _ _ _ _ _ h => h) ((Ex.nilCheck rfl).s) ?_
          refine Any.takeE 17 rfl rfl rfl rfl (by kernel_rfl) (fun _ _ _ _ _ h => h) ((Ex.fieldAddr rfl Try.underlying60 rfl sz57).s) ?_
          refine Any.one 18 (by kernel_rfl) rfl rfl (One.of_ops rfl ?_)
          refine Ops.store 4 [.slice A161 l161.length c161] hst163 rfl rfl rfl rfl sz57 rfl (by simp [Value.oneCell']) (by simp) (fun w164 hst164 => Ops.stop ?_)
          have hS0 := (⟨_, _, (Le.refl _), hst164⟩ : (fun w => ∃ ζ Y, Le z123 ζ ∧ Ht w0 (frz ζ :: Y) w) _)
          refine ⟨⟨.inr (fun _ => hS0), .inl (by decide), trivial⟩, ?_⟩
          refine Any.takeE 19 rfl rfl rfl rfl (by kernel_rfl) (fun _ _ _ _ _ h => h) ((Ex.nilCheck rfl).s) ?_
          refine Any.takeE 20 rfl rfl rfl rfl (by kernel_rfl) (fun _ _ _ _ _ h => h) ((Ex.fieldAddr rfl Try.underlying60 rfl sz58).s) ?_
          refine Any.one 21 (by kernel_rfl) rfl rfl (One.of_ops rfl ?_)
          refine Ops.store 4 [.slice A163 l163.length c163] hst164 rfl rfl rfl rfl sz58 rfl (by simp [Value.oneCell']) (by simp) (fun w165 hst165 => Ops.stop ?_)
          have hS0 := (⟨_, _, (Le.refl _), hst165⟩ : (fun w => ∃ ζ Y, Le z123 ζ ∧ Ht w0 (frz ζ :: Y) w) _)
          refine ⟨⟨.inr (fun _ => hS0), .inl (by decide), trivial⟩, ?_⟩
          refine Any.done (by kernel_rfl) ?_
          exact Run.sub (by exact subB_spec trivial) (hj135 _ _ ⟨l161, l163, A161, c161, d161, A163, c163, d163, z123, hf, rfl, hm155, hz125, f161, f163, (St.up (St.up (St.up (St.up (St.up (St.up (St.forget (St.forget hst165 2) 1) 3 rfl) 3 rfl) 3 rfl) 5 rfl) 5 rfl) 5 rfl)⟩)
        · skip
          refine ⟨_, rfl, rfl, One.of_ops rfl ?_⟩
          refine Ops.sliceF [.slice A10 p2.length c10] hst160 rfl Try.underlying58 sz86 zr86 rfl rfl (by kernel_rfl) rfl (by simp [Value.oneCell']) rfl (fun A166 w166 hst166 => Ops.stop ?_)
          have f166 : Cs (tSl (tA Γ2)) z123 [.slice A10 p2.length c10] [p2] := (Cs.cons (c := [.slice A10 p2.length c10]) ⟨_, _, rfl, f10⟩ (Cs.nil _ _))
          have hS0 := (⟨_, _, (Le.refl _), hst166⟩ : (fun w => ∃ ζ Y, Le z123 ζ ∧ Ht w0 (frz ζ :: Y) w) _)
          have hS1 := (⟨_, _, (Le.refl _), (St.up (St.up hst166 4 rfl) 1 rfl)⟩ : (fun w => ∃ ζ Y, Le z123 ζ ∧ Ht w0 (frz ζ :: (blk g0 [.map (some g124), .map (some gm2), .slice A3 p0.wait_.length c3, .slice A4 p0.files_.length c4, vi p0.room_, vi p0.stop_, vb p0.down_, vi p0.calls_] 60) :: Y) w) _)
          refine ⟨⟨.inr (fun _ => hS0), .inr (fun _ => hS1), trivial⟩, ?_⟩
          obtain ⟨l167, hy167, hf⟩ := bnd hf
          refine Any.one 8 (by kernel_rfl) rfl rfl (One.of_ops rfl ?_)
          refine Ops.app 6 hst166 rfl f3 rfl (own_slh f160 rfl (hst166.get (i := 2) rfl)) rfl hy167 rfl rfl rfl rfl Try.underlying57 inf52 rfl (by decide) (by decide) rfl (fun A167 c167 d167 w167 f167 hst167 => Ops.stop ?_)
          have hS0 := (⟨_, _, (Le.refl _), hst167⟩ : (fun w => ∃ ζ Y, Le z123 ζ ∧ Ht w0 (frz ζ :: Y) w) _)
          have hS1 := (⟨_, _, (Le.refl _), (St.up (St.up hst167 4 rfl) 1 rfl)⟩ : (fun w => ∃ ζ Y, Le z123 ζ ∧ Ht w0 (frz ζ :: (blk g0 [.map (some g124), .map (some gm2), .slice A3 p0.wait_.length c3, .slice A4 p0.files_.length c4, vi p0.room_, vi p0.stop_, vb p0.down_, vi p0.calls_] 60) :: Y) w) _)
          refine ⟨⟨.inr (fun _ => hS0), .inr (fun _ => hS1), trivial⟩, ?_⟩
          obtain ⟨l168, hy168, hf⟩ := bnd hf
          refine Any.one 15 (by kernel_rfl) rfl rfl (One.of_ops rfl ?_)
          refine Ops.app 7 hst167 rfl f4 rfl (own_slh f166 rfl (hst167.get (i := 1) rfl)) rfl hy168 rfl rfl rfl rfl Try.underlying58 inf86 rfl (by first | decide | exact Nat.succ_pos _) (by first | decide | exact Nat.succ_pos _) rfl (fun A168 c168 d168 w168 f168 hst168 => Ops.stop ?_)
          have hS0 := (⟨_, _, (Le.refl _), hst168⟩ : (fun w => ∃ ζ Y, Le z123 ζ ∧ Ht w0 (frz ζ :: Y) w) _)
          have hS1 := (⟨_, _, (Le.refl _), (St.up (St.up hst168 4 rfl) 1 rfl)⟩ : (fun w => ∃ ζ Y, Le z123 ζ ∧ Ht w0 (frz ζ :: (blk g0 [.map (some g124), .map (some gm2), .slice A3 p0.wait_.length c3, .slice A4 p0.files_.length c4, vi p0.room_, vi p0.stop_, vb p0.down_, vi p0.calls_] 60) :: Y) w) _)
          refine ⟨⟨.inr (fun _ => hS0), .inr (fun _ => hS1), trivial⟩, ?_⟩
          refine Any.takeE 16 rfl rfl rfl rfl (by kernel_rfl) (fun _ _ _ _ _ h => h) ((Ex.nilCheck rfl).s) ?_
          refine Any.takeE 17 rfl rfl rfl rfl (by kernel_rfl) (fun _ _ _ _ _ h => h) ((Ex.fieldAddr rfl Try.underlying60 rfl sz57).s) ?_
          refine Any.one 18 (by kernel_rfl) rfl rfl (One.of_ops rfl ?_)
          refine Ops.store 4 [.slice A167 l167.length c167] hst168 rfl rfl rfl rfl sz57 rfl (by simp [Value.oneCell']) (by simp) (fun w169 hst169 => Ops.stop ?_)
          have hS0 := (⟨_, _, (Le.refl _), hst169⟩ : (fun w => ∃ ζ Y, Le z123 ζ ∧ Ht w0 (frz ζ :: Y) w) _)
          refine ⟨⟨.inr (fun _ => hS0), .inl (by decide), trivial⟩, ?_⟩
          refine Any.takeE 19 rfl rfl rfl rfl (by kernel_rfl) (fun _ _ _ _ _ h => h) ((Ex.nilCheck rfl).s) ?_
          refine Any.takeE 20 rfl rfl rfl rfl (by kernel_rfl) (fun _ _ _ _ _ h => h) ((Ex.fieldAddr rfl Try.underlying60 rfl sz58).s) ?_
          refine Any.one 21 (by kernel_rfl) rfl rfl (One.of_ops rfl ?_)
          refine Ops.store 4 [.slice A168 l168.length c168] hst169 rfl rfl rfl rfl sz58 rfl (by simp [Value.oneCell']) (by simp) (fun w170 hst170 => Ops.stop ?_)
          have hS0 := (⟨_, _, (Le.refl _), hst170⟩ : (fun w => ∃ ζ Y, Le z123 ζ ∧ Ht w0 (frz ζ :: Y) w) _)
          refine ⟨⟨.inr (fun _ => hS0), .inl (by decide), trivial⟩, ?_⟩
          refine Any.done (by kernel_rfl) ?_
          exact Run.sub (by exact subB_spec trivial) (hj135 _ _ ⟨l167, l168, A167, c167, d167, A168, c168, d168, z123, hf, rfl, hm155, hz125, f167, f168, (St.up (St.up (St.up (St.up (St.up (St.up (St.forget (St.forget hst170 2) 1) 3 rfl) 3 rfl) 3 rfl) 5 rfl) 5 rfl) 5 rfl)⟩)
      · skip
        refine ⟨_, rfl, rfl, One.of_ops rfl ?_⟩
        refine Ops.sliceF [.slice A10 p2.length c10] hst159 rfl Try.underlying58 sz86 zr86 rfl rfl (by kernel_rfl) rfl (by simp [Value.oneCell']) rfl (fun A171 w171 hst171 => Ops.stop ?_)
        have f171 : Cs (tSl (tA Γ2)) z123 [.slice A10 p2.length c10] [p2] := (Cs.cons (c := [.slice A10 p2.length c10]) ⟨_, _, rfl, f10⟩ (Cs.nil _ _))
        have hS0 := (⟨_, _, (Le.refl _), hst171⟩ : (fun w => ∃ ζ Y, Le z123 ζ ∧ Ht w0 (frz ζ :: Y) w) _)
        have hS1 := (⟨_, _, (Le.refl _), (St.up (St.up hst171 3 rfl) 1 rfl)⟩ : (fun w => ∃ ζ Y, Le z123 ζ ∧ Ht w0 (frz ζ :: (blk g0 [.map (some g124), .map (some gm2), .slice A3 p0.wait_.length c3, .slice A4 p0.files_.length c4, vi p0.room_, vi p0.stop_, vb p0.down_, vi p0.calls_] 60) :: Y) w) _)
        refine ⟨⟨.inr (fun _ => hS0), .inr (fun _ => hS1), trivial⟩, ?_⟩
        refine Any.one 7 (by kernel_rfl) rfl rfl (One.of_ops rfl ?_)
        refine Ops.sliceF [.slice A9 p1.length c9] hst171 rfl Try.underlying57 sz52 zr52 rfl rfl (by kernel_rfl) rfl (by simp [Value.oneCell']) rfl (fun A172 w172 hst172 => Ops.stop ?_)
        have f172 : Cs (tSl tS) z123 [.slice A9 p1.length c9] [p1] := (Cs.cons (c := [.slice A9 p1.length c9]) ⟨_, _, rfl, f9⟩ (Cs.nil _ _))
        have hS0 := (⟨_, _, (Le.refl _), hst172⟩ : (fun w => ∃ ζ Y, Le z123 ζ ∧ Ht w0 (frz ζ :: Y) w) _)
        have hS1 := (⟨_, _, (Le.refl _), (St.up (St.up hst172 4 rfl) 1 rfl)⟩ : (fun w => ∃ ζ Y, Le z123 ζ ∧ Ht w0 (frz ζ :: (blk g0 [.map (some g124), .map (some gm2), .slice A3 p0.wait_.length c3, .slice A4 p0.files_.length c4, vi p0.room_, vi p0.stop_, vb p0.down_, vi p0.calls_] 60) :: Y) w) _)
        refine ⟨⟨.inr (fun _ => hS0), .inr (fun _ => hS1), trivial⟩, ?_⟩
        obtain ⟨l173, hy173, hf⟩ := bnd hf
        refine Any.one 8 (by kernel_rfl) rfl rfl (One.of_ops rfl ?_)
        refine Ops.app 6 hst172 rfl f3 rfl (own_slh f172 rfl (hst172.get (i := 1) rfl)) rfl hy173 rfl rfl rfl rfl Try.underlying57 inf52 rfl (by decide) (by decide) rfl (fun A173 c173 d173 w173 f173 hst173 => Ops.stop ?_)
        have hS0 := (⟨_, _, (Le.refl _), hst173⟩ : (fun w => ∃ ζ Y, Le z123 ζ ∧ Ht w0 (frz ζ :: Y) w) _)
        have hS1 := (⟨_, _, (Le.refl _), (St.up (St.up hst173 4 rfl) 1 rfl)⟩ : (fun w => ∃ ζ Y, Le z123 ζ ∧ Ht w0 (frz ζ :: (blk g0 [.map (some g124), .map (some gm2), .slice A3 p0.wait_.length c3, .slice A4 p0.files_.length c4, vi p0.room_, vi p0.stop_, vb p0.down_, vi p0.calls_] 60) :: Y) w) _)
        refine ⟨⟨.inr (fun _ => hS0), .inr (fun _ => hS1), trivial⟩, ?_⟩
        obtain ⟨l174, hy174, hf⟩ := bnd hf
        refine Any.one 15 (by kernel_rfl) rfl rfl (One.of_ops rfl ?_)
        refine Ops.app 7 hst173 rfl f4 rfl (own_slh f171 rfl (hst173.get (i := 2) rfl)) rfl hy174 rfl rfl rfl rfl Try.underlying58 inf86 rfl (by first | decide | exact Nat.succ_pos _) (by first | decide | exact Nat.succ_pos _) rfl (fun A174 c174 d174 w174 f174 hst174 => Ops.stop ?_)
        have hS0 := (⟨_, _, (Le.refl _), hst174⟩ : (fun w => ∃ ζ Y, Le z123 ζ ∧ Ht w0 (frz ζ :: Y) w) _)
        have hS1 := (⟨_, _, (Le.refl _), (St.up (St.up hst174 4 rfl) 1 rfl)⟩ : (fun w => ∃ ζ Y, Le z123 ζ ∧ Ht w0 (frz ζ :: (blk g0 [.map (some g124), .map (some gm2), .slice A3 p0.wait_.length c3, .slice A4 p0.files_.length c4, vi p0.room_, vi p0.stop_, vb p0.down_, vi p0.calls_] 60) :: Y) w) _)
        refine ⟨⟨.inr (fun _ => hS0), .inr (fun _ => hS1), trivial⟩, ?_⟩
        refine Any.takeE 16 rfl rfl rfl rfl (by kernel_rfl) (fun _ _ _ _ _ h => h) ((Ex.nilCheck rfl).s) ?_
        refine Any.takeE 17 rfl rfl rfl rfl (by kernel_rfl) (fun _ _ _ _ _ h => h) ((Ex.fieldAddr rfl Try.underlying60 rfl sz57).s) ?_
        refine Any.one 18 (by kernel_rfl) rfl rfl (One.of_ops rfl ?_)
        refine Ops.store 4 [.slice A173 l173.length c173] hst174 rfl rfl rfl rfl sz57 rfl (by simp [Value.oneCell']) (by simp) (fun w175 hst175 => Ops.stop ?_)
        have hS0 := (⟨_, _, (Le.refl _), hst175⟩ : (fun w => ∃ ζ Y, Le z123 ζ ∧ Ht w0 (frz ζ :: Y) w) _)
        refine ⟨⟨.inr (fun _ => hS0), .inl (by decide), trivial⟩, ?_⟩
        refine Any.takeE 19 rfl rfl rfl rfl (by kernel_rfl) (fun _ _ _ _ _ h => h) ((Ex.nilCheck rfl).s) ?_
        refine Any.takeE 20 rfl rfl rfl rfl (by kernel_rfl) (fun _ _ _ _ _ h => h) ((Ex.fieldAddr rfl Try.underlying60 rfl sz58).s) ?_
        refine Any.one 21 (by kernel_rfl) rfl rfl (One.of_ops rfl ?_)
        refine Ops.store 4 [.slice A174 l174.length c174] hst175 rfl rfl rfl rfl sz58 rfl (by simp [Value.oneCell']) (by simp) (fun w176 hst176 => Ops.stop ?_)
        have hS0 := (⟨_, _, (Le.refl _), hst176⟩ : (fun w => ∃ ζ Y, Le z123 ζ ∧ Ht w0 (frz ζ :: Y) w) _)
        refine ⟨⟨.inr (fun _ => hS0), .inl (by decide), trivial⟩, ?_⟩
        refine Any.done (by kernel_rfl) ?_
        exact Run.sub (by exact subB_spec trivial) (hj135 _ _ ⟨l173, l174, A173, c173, d173, A174, c174, d174, z123, hf, rfl, hm155, hz125, f173, f174, (St.up (St.up (St.up (St.up (St.up (St.up (St.forget (St.forget hst176 2) 1) 3 rfl) 3 rfl) 3 rfl) 5 rfl) 5 rfl) 5 rfl)⟩)
    · rintro e' w177 ⟨l157, l158, A157, c157, d157, A158, c158, d158, z156, hf, rfl, hz177, hy177_0, f157, f158, hst177⟩
      replace f124 := f124.mono hz177; replace f2 := f2.mono hz177
      unfold go_law04_Model_change.j1 at hf
      obtain rfl := Option.some.inj hf
      exact Run.doneV [] rfl trivial ⟨z156, g124, E124, c124, gm2, E2, c2, A157, c157, d157, A158, c158, d158, rfl, hy177_0, f124, f2, f157, f158, (St.up (St.up (St.up (St.up (St.up (St.up hst177 2 rfl) 2 rfl) 5 rfl) 4 rfl) 5 rfl) 5 rfl)⟩
def go_law04_Model_do.j9 (y17 : Str) (y73 : Bool × law04Model) (ar100 : List law04file) (b179 : Bool) : Option (Int × law04Model × List law04file) :=
  if b179 then ((go_law04_Model_change y73.2 [y17] [none]).bind fun y184 => some (0, y184, ar100)) else (some (0, y73.2, ar100))
def go_law04_Model_do.j8 (p0 : law04Model) (p1 : law04Act) (y17 : Str) (y73 : Bool × law04Model) (ar100 : List law04file) (b142 : Bool) : Option (Int × law04Model × List law04file) :=
  if b142 then ((((mget p0.now_ y17).getD none)).bind fun i145 => (ar100[i145]?).bind fun y145 => (some (ar100.set i145 (⟨y145.b_, (y145.b_.length : Int)⟩ : law04file))).bind fun ar150 => some (0, y73.2, ar150)) else (if p1.Op % 12 = 5 then ((go_law04_copied y73.2.now_).bind fun y151 => some (0, (⟨y151.2, y151.1, [], [], y73.2.room_, y73.2.stop_, y73.2.down_, y73.2.calls_⟩ : law04Model), ar100)) else (if p1.Op % 12 = 6 then ((go_law04_name p1.To).bind fun y161 => (go_law04_Model_change y73.2 [y17, y161] [none, ((mget p0.now_ y17).getD none)]).bind fun y165 => some (0, y165, ar100)) else (if p1.Op % 12 = 10 then (go_law04_Model_do.j9 y17 y73 ar100 (decide (p1.Op % 12 = 10))) else (go_law04_Model_do.j9 y17 y73 ar100 (decide (p1.Op % 12 = 11))))))
def go_law04_Model_do.j7 (p0 : law04Model) (p1 : law04Act) (y17 : Str) (y73 : Bool × law04Model) (ar100 : List law04file) (b112 : Bool) : Option (Int × law04Model × List law04file) :=
  if b112 then ((some (ar100 ++ [(⟨[], 0⟩ : law04file)])).bind fun ar117 => (go_law04_Model_change y73.2 [y17] [some ar100.length]).bind fun y119 => some (0, y119, ar117)) else (if p1.Op % 12 = 3 then ((((mget p0.now_ y17).getD none)).bind fun i130 => (ar100[i130]?).bind fun y130 => (cutI y130.b_ 0 p1.N.toInt).bind fun s135 => (some (ar100.set i130 (⟨s135, min y130.safe_ p1.N.toInt⟩ : law04file))).bind fun ar138 => some (0, y73.2, ar138)) else (if p1.Op % 12 = 4 then (go_law04_Model_do.j8 p0 p1 y17 y73 ar100 (decide (p1.Op % 12 = 4))) else (go_law04_Model_do.j8 p0 p1 y17 y73 ar100 (decide (p1.Op % 12 = 9)))))
def go_law04_Model_do.j6 (p0 : law04Model) (p1 : law04Act) (y17 : Str) (y73 : Bool × law04Model) (ar100 : List law04file) : Option (Int × law04Model × List law04file) :=
  if y73.1 then (if p1.Op % 12 = 0 then (go_law04_Model_do.j7 p0 p1 y17 y73 ar100 (decide (p1.Op % 12 = 0))) else (go_law04_Model_do.j7 p0 p1 y17 y73 ar100 (decide (p1.Op % 12 = 1)))) else (some (7, y73.2, ar100))
def go_law04_Model_do.j5 (p0 : law04Model) (p1 : law04Act) (p2 : List UInt8) (ar2 : List law04file) (y17 : Str) (y73 : Bool × law04Model) (b87 : Bool) : Option (Int × law04Model × List law04file) :=
  if b87 then ((((mget p0.now_ y17).getD none)).bind fun i101 => (ar2[i101]?).bind fun y101 => (catI y101.b_ p2).bind fun s105 => (some (ar2.set i101 (⟨s105, y101.safe_⟩ : law04file))).bind fun ar107 => go_law04_Model_do.j6 p0 p1 y17 y73 ar107) else (go_law04_Model_do.j6 p0 p1 y17 y73 ar2)
def go_law04_Model_do.j3 (p0 : law04Model) (p1 : law04Act) (p2 : List UInt8) (ar2 : List law04file) (y17 : Str) : Option (Int × law04Model × List law04file) :=
  (go_law04_Model_call p0).bind fun y73 => if p1.Op % 12 = 2 then (go_law04_Model_do.j5 p0 p1 p2 ar2 y17 y73 true) else (if p1.Op % 12 = 7 then (go_law04_Model_do.j5 p0 p1 p2 ar2 y17 y73 true) else (go_law04_Model_do.j5 p0 p1 p2 ar2 y17 y73 (decide (p1.Op % 12 = 8))))
def go_law04_Model_do.j4 (p0 : law04Model) (p1 : law04Act) (p2 : List UInt8) (ar2 : List law04file) (y17 : Str) (b57 : Bool) : Option (Int × law04Model × List law04file) :=
  if b57 then ((go_law04_Model_used p0 ar2).bind fun y62 => if p0.room_ < wr (y62 + (p2.length : Int)) then (some (4, p0, ar2)) else (go_law04_Model_do.j3 p0 p1 p2 ar2 y17)) else (if p1.Op % 12 = 3 then (if p1.N.toInt < 0 then (some (14, p0, ar2)) else ((((mget p0.now_ y17).getD none)).bind fun i65 => (ar2[i65]?).bind fun y65 => if (y65.b_.length : Int) < p1.N.toInt then (some (14, p0, ar2)) else (go_law04_Model_do.j3 p0 p1 p2 ar2 y17))) else (if p1.Op % 12 = 6 then ((go_law04_name p1.To).bind fun y70 => if y17 = y70 then (some (14, p0, ar2)) else (go_law04_Model_do.j3 p0 p1 p2 ar2 y17)) else (go_law04_Model_do.j3 p0 p1 p2 ar2 y17)))
def go_law04_Model_do.j2 (p0 : law04Model) (p1 : law04Act) (p2 : List UInt8) (ar2 : List law04file) (y17 : Str) (b30 : Bool) : Option (Int × law04Model × List law04file) :=
  if b30 then (if ((mget p0.now_ y17).getD none) = none then (go_law04_Model_do.j3 p0 p1 p2 ar2 y17) else (some (5, p0, ar2))) else (if p1.Op % 12 = 2 then (go_law04_Model_do.j4 p0 p1 p2 ar2 y17 (decide (p1.Op % 12 = 2))) else (if p1.Op % 12 = 7 then (go_law04_Model_do.j4 p0 p1 p2 ar2 y17 (decide (p1.Op % 12 = 7))) else (go_law04_Model_do.j4 p0 p1 p2 ar2 y17 (decide (p1.Op % 12 = 8)))))
def go_law04_Model_do.j1 (p0 : law04Model) (p1 : law04Act) (p2 : List UInt8) (ar2 : List law04file) (y17 : Str) (b25 : Bool) : Option (Int × law04Model × List law04file) :=
  if b25 then (some (6, p0, ar2)) else (if p1.Op % 12 = 0 then (go_law04_Model_do.j2 p0 p1 p2 ar2 y17 (decide (p1.Op % 12 = 0))) else (go_law04_Model_do.j2 p0 p1 p2 ar2 y17 (decide (p1.Op % 12 = 1))))
def go_law04_Model_do (p0 : law04Model) (p1 : law04Act) (p2 : List UInt8) (ar2 : List law04file) : Option (Int × law04Model × List law04file) :=
  (go_law04_name p1.Name).bind fun y17 => if p0.down_ then (some (7, p0, ar2)) else (if ((mget p0.now_ y17).getD none) = none then (if p1.Op % 12 = 0 then (go_law04_Model_do.j1 p0 p1 p2 ar2 y17 false) else (if p1.Op % 12 = 1 then (go_law04_Model_do.j1 p0 p1 p2 ar2 y17 false) else (go_law04_Model_do.j1 p0 p1 p2 ar2 y17 (!(decide (p1.Op % 12 = 5)))))) else (go_law04_Model_do.j1 p0 p1 p2 ar2 y17 false))
set_option maxRecDepth 100000 in
set_option maxHeartbeats 4000000 in
theorem go_law04_Model_do.walk {w0 w : World} {Γ2 : List Nat} {X : List Res} {z0 : Zp} {p0 : law04Model} {g0 : Nat} {gm1 : Nat} {E1 : Array MapEntry} {c1 : Nat} {gm2 : Nat} {E2 : Array MapEntry} {c2 : Nat} {A3 : Option Addr} {c3 : Nat} {d3 : List Value} {A4 : Option Addr} {c4 : Nat} {d4 : List Value} {p1 : law04Act} {A12 : Option Addr} {c12 : Nat} {p2 : List UInt8} {A14 : Option Addr} {c14 : Nat} {ar2 : List law04file} {Ha2 : List Res} {r : Int × law04Model × List law04file} (hst : Ht w0 (frz z0 :: (blk g0 [.map (some gm1), .map (some gm2), .slice A3 p0.wait_.length c3, .slice A4 p0.files_.length c4, vi p0.room_, vi p0.stop_, vb p0.down_, vi p0.calls_] 60) :: (ob gm1 (.map E1 c1)) :: (ob gm2 (.map E2 c2)) :: (orow 52 1 (.slice A3 p0.wait_.length c3) p0.wait_.length d3) :: (orow 86 1 (.slice A4 p0.files_.length c4) p0.files_.length d4) :: (Ha2 ++ X)) w) (f1 : Mr (tA Γ2) pk1 z0 E1 c1 p0.now_) (f2 : Mr (tA Γ2) pk1 z0 E2 c2 p0.kept_) (f3 : Cs (tSl tS) z0 d3 p0.wait_) (f4 : Cs (tSl (tA Γ2)) z0 d4 p0.files_) (f12 : Sl tU8 z0 A12 c12 p1.Bytes) (f14 : Sl tU8 z0 A14 c14 p2) (hA2 : Ar2 z0 Γ2 ar2 Ha2) (hf : go_law04_Model_do p0 p1 p2 ar2 = some r) :
    Calls Try.prog 33 #[.pointer (some ⟨g0, 0, none⟩), .agg #[vu8 p1.Op, vu8 p1.Name, vu8 p1.To, .slice A12 p1.Bytes.length c12, vi16 p1.N], .slice A14 p2.length c14] w fun e w' => ∃ (z' : Zp) (gm9002 : Nat) (E9002 : Array MapEntry) (c9002 : Nat) (gm9003 : Nat) (E9003 : Array MapEntry) (c9003 : Nat) (A9004 : Option Addr) (c9004 : Nat) (d9004 : List Value) (A9005 : Option Addr) (c9005 : Nat) (d9005 : List Value) (Ha9010 : List Res) (Γn2 : List Nat), e = .returned (vi r.1) ∧ Le z0 z' ∧ Mr (tA Γn2) pk1 z' E9002 c9002 r.2.1.now_ ∧ Mr (tA Γn2) pk1 z' E9003 c9003 r.2.1.kept_ ∧ Cs (tSl tS) z' d9004 r.2.1.wait_ ∧ Cs (tSl (tA Γn2)) z' d9005 r.2.1.files_ ∧ Ar2 z' Γn2 r.2.2 Ha9010 ∧ Γ2 <+: Γn2 ∧ Ht w0 (frz z' :: (blk g0 [.map (some gm9002), .map (some gm9003), .slice A9004 r.2.1.wait_.length c9004, .slice A9005 r.2.1.files_.length c9005, vi r.2.1.room_, vi r.2.1.stop_, vb r.2.1.down_, vi r.2.1.calls_] 60) :: (ob gm9002 (.map E9002 c9002)) :: (ob gm9003 (.map E9003 c9003)) :: (orow 52 1 (.slice A9004 r.2.1.wait_.length c9004) r.2.1.wait_.length d9004) :: (orow 86 1 (.slice A9005 r.2.1.files_.length c9005) r.2.1.files_.length d9005) :: (Ha9010 ++ X)) w' := by
  refine calls_np Try.func33 rfl rfl ?_
  have hle0 := Le.refl z0
  unfold go_law04_Model_do at hf
  have hGi2 := List.prefix_rfl (l := Γ2)
  refine Run.seq ?_
  refine Run.region ?_
  refine Ops.boxF [vu8 p1.Op, vu8 p1.Name, vu8 p1.To, .slice A12 p1.Bytes.length c12, vi16 p1.N] hst rfl rfl rfl (fun g15 w15 hst15 => ?_)
  refine Ops.ex (Ex.assign rfl) rfl rfl rfl ?_
  refine Ops.nil ?_
  refine Run.seq ?_
  refine Run.drawH [([], fun w => ∃ ζ Y, Le z0 ζ ∧ Ht w0 (frz ζ :: (blk g15 [vu8 p1.Op, vu8 p1.Name, vu8 p1.To, .slice A12 p1.Bytes.length c12, vi16 p1.N] 49) :: (blk g0 [.map (some gm1), .map (some gm2), .slice A3 p0.wait_.length c3, .slice A4 p0.files_.length c4, vi p0.room_, vi p0.stop_, vb p0.down_, vi p0.calls_] 60) :: (ob gm1 (.map E1 c1)) :: (ob gm2 (.map E2 c2)) :: (orow 52 1 (.slice A3 p0.wait_.length c3) p0.wait_.length d3) :: (orow 86 1 (.slice A4 p0.files_.length c4) p0.files_.length d4) :: Y) w)] (by kernel_rfl) hst15 (fun w16 hst16 => ?_)
  have hS0 := (⟨_, _, (Le.refl _), (St.up (St.up (St.up (St.up (St.up (St.up (St.up hst16 6 rfl) 6 rfl) 6 rfl) 6 rfl) 6 rfl) 6 rfl) 6 rfl)⟩ : (fun w => ∃ ζ Y, Le z0 ζ ∧ Ht w0 (frz ζ :: (blk g15 [vu8 p1.Op, vu8 p1.Name, vu8 p1.To, .slice A12 p1.Bytes.length c12, vi16 p1.N] 49) :: (blk g0 [.map (some gm1), .map (some gm2), .slice A3 p0.wait_.length c3, .slice A4 p0.files_.length c4, vi p0.room_, vi p0.stop_, vb p0.down_, vi p0.calls_] 60) :: (ob gm1 (.map E1 c1)) :: (ob gm2 (.map E2 c2)) :: (orow 52 1 (.slice A3 p0.wait_.length c3) p0.wait_.length d3) :: (orow 86 1 (.slice A4 p0.files_.length c4) p0.files_.length d4) :: Y) w) _)
  refine Any.takeE 0 rfl rfl rfl rfl (by kernel_rfl) (fun _ _ _ _ _ h => h) ((Ex.fieldAddr rfl Try.underlying49 rfl sz5).s) ?_
  refine Any.take 0 1 rfl rfl rfl rfl rfl (by kernel_rfl) (fun _ _ _ _ _ h => h) (ExS.load rfl Try.underlying5 rfl (fun w hS => by obtain ⟨_, _, _, hs⟩ := hS; exact hs.cell (i := 1) rfl rfl)) hS0 ?_
  refine Any.takeE 3 rfl rfl rfl rfl (by kernel_rfl) (fun _ _ _ _ _ h => h) ((Ex.fieldAddr rfl Try.underlying49 rfl sz23).s) ?_
  refine Any.take 0 4 rfl rfl rfl rfl rfl (by kernel_rfl) (fun _ _ _ _ _ h => h) (ExS.load rfl Try.underlying23 rfl (fun w hS => by obtain ⟨_, _, _, hs⟩ := hS; exact hs.cell (i := 1) rfl rfl)) hS0 ?_
  refine Any.takeE 5 rfl rfl rfl rfl (by kernel_rfl) (fun _ _ _ _ _ h => h) ((Ex.ci16 rfl Try.underlying23 Try.underlying3).s) ?_
  obtain ⟨y17, hy17, hf⟩ := bnd hf
  refine Any.one 2 (by kernel_rfl) rfl rfl (One.of_ops rfl ?_)
  refine Ops.call rfl rfl Try.func41 (by kernel_rfl) (by kernel_rfl) rfl (go_law04_name.walk (p0 := p1.Name) (hst := hst16) (hf := hy17)) ?_
  rintro _ w17 ⟨z17, rfl, hz17, hst17⟩
  refine ⟨_, rfl, Ops.stop ?_⟩
  replace f12 := f12.mono hz17; replace f14 := f14.mono hz17; replace f1 := f1.mono hz17; replace f2 := f2.mono hz17; replace f3 := f3.mono hz17; replace f4 := f4.mono hz17; replace hA2 := hA2.mono hz17
  replace hle0 := hle0.trans hz17
  have hS0 := (⟨_, _, hle0, (St.up (St.up (St.up (St.up (St.up (St.up (St.up hst17 6 rfl) 6 rfl) 6 rfl) 6 rfl) 6 rfl) 6 rfl) 6 rfl)⟩ : (fun w => ∃ ζ Y, Le z0 ζ ∧ Ht w0 (frz ζ :: (blk g15 [vu8 p1.Op, vu8 p1.Name, vu8 p1.To, .slice A12 p1.Bytes.length c12, vi16 p1.N] 49) :: (blk g0 [.map (some gm1), .map (some gm2), .slice A3 p0.wait_.length c3, .slice A4 p0.files_.length c4, vi p0.room_, vi p0.stop_, vb p0.down_, vi p0.calls_] 60) :: (ob gm1 (.map E1 c1)) :: (ob gm2 (.map E2 c2)) :: (orow 52 1 (.slice A3 p0.wait_.length c3) p0.wait_.length d3) :: (orow 86 1 (.slice A4 p0.files_.length c4) p0.files_.length d4) :: Y) w) _)
  refine ⟨⟨.inr (fun _ => hS0), trivial⟩, ?_⟩
  refine Any.takeE 6 rfl rfl rfl rfl (by kernel_rfl) (fun _ _ _ _ _ h => h) ((Ex.assign rfl).s) ?_
  refine Any.takeE 7 rfl rfl rfl rfl (by kernel_rfl) (fun _ _ _ _ _ h => h) ((Ex.assign rfl).s) ?_
  refine Any.done (by kernel_rfl) ?_
  refine Run.seq ?_
  refine Run.region ?_
  refine Ops.ex (Ex.move rfl) rfl rfl rfl ?_
  refine Ops.ex (Ex.nilCheck rfl) rfl rfl rfl ?_
  refine Ops.ex (Ex.fieldAddr rfl Try.underlying60 rfl sz56) rfl rfl rfl ?_
  refine Ops.load rfl Try.underlying56 rfl (hst17.cell (i := 2) rfl rfl) rfl ?_
  refine Ops.ex (Ex.move rfl) rfl rfl rfl ?_
  refine Ops.mlook1 (zcs := [.pointer none]) (s := y17) none (Mr.own f1 hst17 (i := 3) rfl) rfl rfl Try.underlying56 Try.underlying9 zr62 ⟨_, rfl, (PtA.nil _)⟩ rfl (fun cs19 hR19 => ?_)
  obtain ⟨A20, rfl, f20⟩ := hR19
  refine Ops.ex (Ex.assign rfl) rfl rfl rfl ?_
  refine Ops.nil ?_
  refine Run.seq ?_
  refine Run.region ?_
  refine Ops.ex (Ex.fieldAddr rfl Try.underlying49 rfl sz5) rfl rfl rfl ?_
  refine Ops.load rfl Try.underlying5 rfl (hst17.cell (i := 1) rfl rfl) rfl ?_
  refine Ops.ex (Ex.rem8 (a := p1.Op) (b := 12) rfl rfl (by decide)) rfl rfl rfl ?_
  refine Ops.ex (Ex.assign rfl) rfl rfl rfl ?_
  refine Ops.nil ?_
  refine Run.seq ?_
  refine Run.seq ?_
  refine Run.region ?_
  refine Ops.ex (Ex.move rfl) rfl rfl rfl ?_
  refine Ops.ex (Ex.nilCheck rfl) rfl rfl rfl ?_
  refine Ops.ex (Ex.fieldAddr rfl Try.underlying60 rfl sz4) rfl rfl rfl ?_
  refine Ops.load rfl Try.underlying4 rfl (hst17.cell (i := 2) rfl rfl) rfl ?_
  refine Ops.nil ?_
  refine Run.cond rfl (fun hc => ?_) (fun hc => ?_)
  · replace hf := ifTb hc hf
    refine Run.seq ?_
    refine Run.region ?_
    refine Ops.ex (Ex.assign rfl) rfl rfl rfl ?_
    refine Ops.nil ?_
    obtain rfl := Option.some.inj hf
    exact Run.retV [vi 7] rfl ⟨rfl, trivial⟩ ⟨z17, gm1, E1, c1, gm2, E2, c2, A3, c3, d3, A4, c4, d4, Ha2, Γ2, rfl, hle0, f1, f2, f3, f4, hA2, hGi2, (St.forget hst17 1)⟩
  · replace hf := ifFb hc hf
    refine Run.skip ?_
    refine Run.seq ?_
    refine Run.seq ?_
    have hm22 := Le.refl z17
    apply Run.jn (fun e' w' => ∃ (b25 : Bool) (Ha24 : List Res) (z23 : Zp), go_law04_Model_do.j1 p0 p1 p2 ar2 y17 b25 = some r ∧ e' = [(0, .pointer (some ⟨g0, 0, none⟩)), (2, .slice A14 p2.length c14), (4, .pointer (some ⟨g15, 0, none⟩)), (7, vs y17), (8, vi p1.N.toInt), (9, .pointer A20), (10, vu8 (p1.Op % 12)), (44, vb b25)] ∧ Le z17 z23 ∧ Le z0 z23 ∧ Ar2 z23 Γ2 ar2 Ha24 ∧ Ht w0 (frz z23 :: (blk g15 [vu8 p1.Op, vu8 p1.Name, vu8 p1.To, .slice A12 p1.Bytes.length c12, vi16 p1.N] 49) :: (blk g0 [.map (some gm1), .map (some gm2), .slice A3 p0.wait_.length c3, .slice A4 p0.files_.length c4, vi p0.room_, vi p0.stop_, vb p0.down_, vi p0.calls_] 60) :: (ob gm1 (.map E1 c1)) :: (ob gm2 (.map E2 c2)) :: (orow 52 1 (.slice A3 p0.wait_.length c3) p0.wait_.length d3) :: (orow 86 1 (.slice A4 p0.files_.length c4) p0.files_.length d4) :: (Ha24 ++ X)) w')
    · intro hj21
      refine Run.region ?_
      refine Ops.ex (Ex.move rfl) rfl rfl rfl ?_
      refine Ops.ex (Ex.eqlA f20 rfl rfl Try.underlying62) rfl rfl rfl ?_
      refine Ops.ex (Ex.move rfl) rfl rfl rfl ?_
      refine Ops.case 33 rfl (fun hc => ?_) (fun hc => ?_)
      · replace hf := ifT (dec_T hc) hf
        refine Ops.on rfl ?_
        refine Ops.ex (Ex.move rfl) rfl rfl rfl ?_
        refine Ops.on rfl ?_
        refine Ops.ex (Ex.neq8 (a := (p1.Op % 12)) (b := 0) rfl rfl) rfl rfl rfl ?_
        refine Ops.ex (Ex.pickT rfl rfl) rfl rfl rfl ?_
        refine Ops.ex (Ex.move rfl) rfl rfl rfl ?_
        refine Ops.case 37 rfl (fun hc => ?_) (fun hc => ?_)
        · replace hf := ifF (neq_T hc) hf
          refine Ops.on rfl ?_
          refine Ops.ex (Ex.move rfl) rfl rfl rfl ?_
          refine Ops.on rfl ?_
          refine Ops.ex (Ex.neq8 (a := (p1.Op % 12)) (b := 1) rfl rfl) rfl rfl rfl ?_
          refine Ops.ex (Ex.pickT rfl rfl) rfl rfl rfl ?_
          refine Ops.ex (Ex.move rfl) rfl rfl rfl ?_
          refine Ops.case 41 rfl (fun hc => ?_) (fun hc => ?_)
          · replace hf := ifF (neq_T hc) hf
            refine Ops.on rfl ?_
            refine Ops.ex (Ex.move rfl) rfl rfl rfl ?_
            refine Ops.on rfl ?_
            refine Ops.ex (Ex.neq8 (a := (p1.Op % 12)) (b := 5) rfl rfl) rfl rfl rfl ?_
            refine Ops.ex (Ex.pickT rfl rfl) rfl rfl rfl ?_
            refine Ops.nil ?_
            exact Run.sub (by exact subB_spec ⟨rfl, rfl, rfl, rfl, rfl, rfl, rfl, rfl, trivial⟩) (hj21 _ _ ⟨!(decide (p1.Op % 12 = 5)), Ha2, z17, hf, rfl, hm22, hle0, hA2, hst17⟩)
          · replace hf := ifT (neq_F hc) hf
            refine Ops.off rfl rfl ?_
            refine Ops.off rfl rfl ?_
            refine Ops.ex (Ex.pickF rfl rfl) rfl rfl rfl ?_
            refine Ops.nil ?_
            exact Run.sub (by exact subB_spec ⟨rfl, rfl, rfl, rfl, rfl, rfl, rfl, rfl, trivial⟩) (hj21 _ _ ⟨false, Ha2, z17, hf, rfl, hm22, hle0, hA2, hst17⟩)
        · replace hf := ifT (neq_F hc) hf
          refine Ops.off rfl rfl ?_
          refine Ops.off rfl rfl ?_
          refine Ops.ex (Ex.pickF rfl rfl) rfl rfl rfl ?_
          refine Ops.ex (Ex.move rfl) rfl rfl rfl ?_
          refine Ops.off rfl rfl ?_
          refine Ops.off rfl rfl ?_
          refine Ops.ex (Ex.pickF rfl rfl) rfl rfl rfl ?_
          refine Ops.nil ?_
          exact Run.sub (by exact subB_spec ⟨rfl, rfl, rfl, rfl, rfl, rfl, rfl, rfl, trivial⟩) (hj21 _ _ ⟨false, Ha2, z17, hf, rfl, hm22, hle0, hA2, hst17⟩)
      · replace hf := ifF (dec_F hc) hf
        refine Ops.off rfl rfl ?_
        refine Ops.off rfl rfl ?_
        refine Ops.ex (Ex.pickF rfl rfl) rfl rfl rfl ?_
        refine Ops.ex (Ex.move rfl) rfl rfl rfl ?_
        refine Ops.off rfl rfl ?_
        refine Ops.off rfl rfl ?_
        refine Ops.ex (Ex.pickF rfl rfl) rfl rfl rfl ?_
        refine Ops.ex (Ex.move rfl) rfl rfl rfl ?_
        refine Ops.off rfl rfl ?_
        refine Ops.off rfl rfl ?_
        refine Ops.ex (Ex.pickF rfl rfl) rfl rfl rfl ?_
        refine Ops.nil ?_
        exact Run.sub (by exact subB_spec ⟨rfl, rfl, rfl, rfl, rfl, rfl, rfl, rfl, trivial⟩) (hj21 _ _ ⟨false, Ha2, z17, hf, rfl, hm22, hle0, hA2, hst17⟩)
    · rintro e' w26 ⟨b25, Ha24, z23, hf, rfl, hz26, hy26_0, hA24, hst26⟩
      replace f14 := f14.mono hz26; replace f20 := f20.mono hz26; replace f12 := f12.mono hz26; replace f1 := f1.mono hz26; replace f2 := f2.mono hz26; replace f3 := f3.mono hz26; replace f4 := f4.mono hz26
      unfold go_law04_Model_do.j1 at hf
      refine Run.cond rfl (fun hc => ?_) (fun hc => ?_)
      · replace hf := ifTb hc hf
        refine Run.seq ?_
        refine Run.region ?_
        refine Ops.ex (Ex.assign rfl) rfl rfl rfl ?_
        refine Ops.nil ?_
        obtain rfl := Option.some.inj hf
        exact Run.retV [vi 6] rfl ⟨rfl, trivial⟩ ⟨z23, gm1, E1, c1, gm2, E2, c2, A3, c3, d3, A4, c4, d4, Ha24, Γ2, rfl, hy26_0, f1, f2, f3, f4, hA24, hGi2, (St.forget hst26 1)⟩
      · replace hf := ifFb hc hf
        refine Run.skip ?_
        refine Run.seq ?_
        refine Run.seq ?_
        refine Run.region ?_
        refine Ops.ex (Ex.move rfl) rfl rfl rfl ?_
        refine Ops.nil ?_
        refine Run.block ?_
        refine Run.seq ?_
        refine Run.seq ?_
        refine Run.region ?_
        refine Ops.ex (Ex.eql8 (a := (p1.Op % 12)) (b := 0) rfl rfl) rfl rfl rfl ?_
        refine Ops.ex (Ex.assign rfl) rfl rfl rfl ?_
        refine Ops.nil ?_
        have hm28 := Le.refl z23
        apply Run.jn (fun e' w' => ∃ (b30 : Bool) (Ha31 : List Res) (z29 : Zp), go_law04_Model_do.j2 p0 p1 p2 ar2 y17 b30 = some r ∧ e' = [(0, .pointer (some ⟨g0, 0, none⟩)), (2, .slice A14 p2.length c14), (4, .pointer (some ⟨g15, 0, none⟩)), (7, vs y17), (8, vi p1.N.toInt), (9, .pointer A20), (10, vu8 (p1.Op % 12)), (45, vu8 (p1.Op % 12)), (46, vb b30)] ∧ Le z23 z29 ∧ Le z0 z29 ∧ Le z17 z29 ∧ Ar2 z29 Γ2 ar2 Ha31 ∧ Ht w0 (frz z29 :: (blk g15 [vu8 p1.Op, vu8 p1.Name, vu8 p1.To, .slice A12 p1.Bytes.length c12, vi16 p1.N] 49) :: (blk g0 [.map (some gm1), .map (some gm2), .slice A3 p0.wait_.length c3, .slice A4 p0.files_.length c4, vi p0.room_, vi p0.stop_, vb p0.down_, vi p0.calls_] 60) :: (ob gm1 (.map E1 c1)) :: (ob gm2 (.map E2 c2)) :: (orow 52 1 (.slice A3 p0.wait_.length c3) p0.wait_.length d3) :: (orow 86 1 (.slice A4 p0.files_.length c4) p0.files_.length d4) :: (Ha31 ++ X)) w')
        · intro hj27
          refine Run.cond rfl (fun hc => ?_) (fun hc => ?_)
          · replace hf := ifT (dec_T hc) hf
            refine Run.skip ?_
            exact Run.sub (by exact subB_spec ⟨rfl, rfl, rfl, rfl, rfl, rfl, rfl, rfl, rfl, trivial⟩) (hj27 _ _ ⟨decide (p1.Op % 12 = 0), Ha24, z23, hf, rfl, hm28, hy26_0, hz26, hA24, hst26⟩)
          · replace hf := ifF (dec_F hc) hf
            refine Run.region ?_
            refine Ops.ex (Ex.eql8 (a := (p1.Op % 12)) (b := 1) rfl rfl) rfl rfl rfl ?_
            refine Ops.ex (Ex.assign rfl) rfl rfl rfl ?_
            refine Ops.nil ?_
            exact Run.sub (by exact subB_spec ⟨rfl, rfl, rfl, rfl, rfl, rfl, rfl, rfl, rfl, trivial⟩) (hj27 _ _ ⟨decide (p1.Op % 12 = 1), Ha24, z23, hf, rfl, hm28, hy26_0, hz26, hA24, hst26⟩)
        · rintro e' w32 ⟨b30, Ha31, z29, hf, rfl, hz32, hy32_0, hy32_1, hA31, hst32⟩
          replace f14 := f14.mono hz32; replace f20 := f20.mono hz32; replace f12 := f12.mono hz32; replace f1 := f1.mono hz32; replace f2 := f2.mono hz32; replace f3 := f3.mono hz32; replace f4 := f4.mono hz32
          unfold go_law04_Model_do.j2 at hf
          have hm52 := Le.refl z29
          apply Run.jn (fun e' w' => ∃ (Ha54 : List Res) (z53 : Zp), go_law04_Model_do.j3 p0 p1 p2 ar2 y17 = some r ∧ e' = [(0, .pointer (some ⟨g0, 0, none⟩)), (2, .slice A14 p2.length c14), (4, .pointer (some ⟨g15, 0, none⟩)), (7, vs y17), (8, vi p1.N.toInt), (9, .pointer A20), (10, vu8 (p1.Op % 12))] ∧ Le z29 z53 ∧ Le z0 z53 ∧ Le z17 z53 ∧ Le z23 z53 ∧ Ar2 z53 Γ2 ar2 Ha54 ∧ Ht w0 (frz z53 :: (blk g15 [vu8 p1.Op, vu8 p1.Name, vu8 p1.To, .slice A12 p1.Bytes.length c12, vi16 p1.N] 49) :: (blk g0 [.map (some gm1), .map (some gm2), .slice A3 p0.wait_.length c3, .slice A4 p0.files_.length c4, vi p0.room_, vi p0.stop_, vb p0.down_, vi p0.calls_] 60) :: (ob gm1 (.map E1 c1)) :: (ob gm2 (.map E2 c2)) :: (orow 52 1 (.slice A3 p0.wait_.length c3) p0.wait_.length d3) :: (orow 86 1 (.slice A4 p0.files_.length c4) p0.files_.length d4) :: (Ha54 ++ X)) w')
          · intro hj33
            refine Run.cond rfl (fun hc => ?_) (fun hc => ?_)
            · replace hf := ifTb hc hf
              refine Run.seq ?_
              refine Run.region ?_
              refine Ops.ex (Ex.move rfl) rfl rfl rfl ?_
              refine Ops.ex (Ex.neqA f20 rfl rfl Try.underlying62) rfl rfl rfl ?_
              refine Ops.nil ?_
              refine Run.cond rfl (fun hc => ?_) (fun hc => ?_)
              · replace hf := ifF (neq_T hc) hf
                refine Run.seq ?_
                refine Run.region ?_
                refine Ops.ex (Ex.assign rfl) rfl rfl rfl ?_
                refine Ops.nil ?_
                obtain rfl := Option.some.inj hf
                exact Run.retV [vi 5] rfl ⟨rfl, trivial⟩ ⟨z29, gm1, E1, c1, gm2, E2, c2, A3, c3, d3, A4, c4, d4, Ha31, Γ2, rfl, hy32_0, f1, f2, f3, f4, hA31, hGi2, (St.forget hst32 1)⟩
              · replace hf := ifT (neq_F hc) hf
                refine Run.skip ?_
                exact Run.sub (by exact subB_spec ⟨rfl, rfl, rfl, rfl, rfl, rfl, rfl, trivial⟩) (hj33 _ _ ⟨Ha31, z29, hf, rfl, hm52, hy32_0, hy32_1, hz32, hA31, hst32⟩)
            · replace hf := ifFb hc hf
              refine Run.seq ?_
              refine Run.seq ?_
              refine Run.region ?_
              refine Ops.ex (Ex.eql8 (a := (p1.Op % 12)) (b := 2) rfl rfl) rfl rfl rfl ?_
              refine Ops.ex (Ex.assign rfl) rfl rfl rfl ?_
              refine Ops.nil ?_
              apply Run.jn (fun e' w' => ∃ (b57 : Bool) (Ha58 : List Res) (z56 : Zp), go_law04_Model_do.j4 p0 p1 p2 ar2 y17 b57 = some r ∧ e' = [(0, .pointer (some ⟨g0, 0, none⟩)), (2, .slice A14 p2.length c14), (4, .pointer (some ⟨g15, 0, none⟩)), (7, vs y17), (8, vi p1.N.toInt), (9, .pointer A20), (10, vu8 (p1.Op % 12)), (45, vu8 (p1.Op % 12)), (51, vb b57)] ∧ Le z29 z56 ∧ Le z0 z56 ∧ Le z17 z56 ∧ Le z23 z56 ∧ Ar2 z56 Γ2 ar2 Ha58 ∧ Ht w0 (frz z56 :: (blk g15 [vu8 p1.Op, vu8 p1.Name, vu8 p1.To, .slice A12 p1.Bytes.length c12, vi16 p1.N] 49) :: (blk g0 [.map (some gm1), .map (some gm2), .slice A3 p0.wait_.length c3, .slice A4 p0.files_.length c4, vi p0.room_, vi p0.stop_, vb p0.down_, vi p0.calls_] 60) :: (ob gm1 (.map E1 c1)) :: (ob gm2 (.map E2 c2)) :: (orow 52 1 (.slice A3 p0.wait_.length c3) p0.wait_.length d3) :: (orow 86 1 (.slice A4 p0.files_.length c4) p0.files_.length d4) :: (Ha58 ++ X)) w')
              · intro hj55
                refine Run.cond rfl (fun hc => ?_) (fun hc => ?_)
                · replace hf := ifT (dec_T hc) hf
                  refine Run.skip ?_
                  exact Run.sub (by exact subB_spec ⟨rfl, rfl, rfl, rfl, rfl, rfl, rfl, rfl, rfl, trivial⟩) (hj55 _ _ ⟨decide (p1.Op % 12 = 2), Ha31, z29, hf, rfl, hm52, hy32_0, hy32_1, hz32, hA31, hst32⟩)
                · replace hf := ifF (dec_F hc) hf
                  refine Run.seq ?_
                  refine Run.region ?_
                  refine Ops.ex (Ex.eql8 (a := (p1.Op % 12)) (b := 7) rfl rfl) rfl rfl rfl ?_
                  refine Ops.ex (Ex.assign rfl) rfl rfl rfl ?_
                  refine Ops.nil ?_
                  refine Run.cond rfl (fun hc => ?_) (fun hc => ?_)
                  · replace hf := ifT (dec_T hc) hf
                    refine Run.skip ?_
                    exact Run.sub (by exact subB_spec ⟨rfl, rfl, rfl, rfl, rfl, rfl, rfl, rfl, rfl, trivial⟩) (hj55 _ _ ⟨decide (p1.Op % 12 = 7), Ha31, z29, hf, rfl, hm52, hy32_0, hy32_1, hz32, hA31, hst32⟩)
                  · replace hf := ifF (dec_F hc) hf
                    refine Run.region ?_
                    refine Ops.ex (Ex.eql8 (a := (p1.Op % 12)) (b := 8) rfl rfl) rfl rfl rfl ?_
                    refine Ops.ex (Ex.assign rfl) rfl rfl rfl ?_
                    refine Ops.nil ?_
                    exact Run.sub (by exact subB_spec ⟨rfl, rfl, rfl, rfl, rfl, rfl, rfl, rfl, rfl, trivial⟩) (hj55 _ _ ⟨decide (p1.Op % 12 = 8), Ha31, z29, hf, rfl, hm52, hy32_0, hy32_1, hz32, hA31, hst32⟩)
              · rintro e' w59 ⟨b57, Ha58, z56, hf, rfl, hz59, hy59_0, hy59_1, hy59_2, hA58, hst59⟩
                replace f14 := f14.mono hz59; replace f20 := f20.mono hz59; replace f12 := f12.mono hz59; replace f1 := f1.mono hz59; replace f2 := f2.mono hz59; replace f3 := f3.mono hz59; replace f4 := f4.mono hz59
                unfold go_law04_Model_do.j4 at hf
                refine Run.cond rfl (fun hc => ?_) (fun hc => ?_)
                · replace hf := ifTb hc hf
                  refine Run.seq ?_
                  have hm61 := Le.refl z56
                  refine Run.drawH [([], fun w => ∃ ζ Y, Le z56 ζ ∧ Ht w0 (frz ζ :: (blk g15 [vu8 p1.Op, vu8 p1.Name, vu8 p1.To, .slice A12 p1.Bytes.length c12, vi16 p1.N] 49) :: (blk g0 [.map (some gm1), .map (some gm2), .slice A3 p0.wait_.length c3, .slice A4 p0.files_.length c4, vi p0.room_, vi p0.stop_, vb p0.down_, vi p0.calls_] 60) :: (ob gm1 (.map E1 c1)) :: (ob gm2 (.map E2 c2)) :: (orow 52 1 (.slice A3 p0.wait_.length c3) p0.wait_.length d3) :: (orow 86 1 (.slice A4 p0.files_.length c4) p0.files_.length d4) :: Y) w)] (by kernel_rfl) hst59 (fun w60 hst60 => ?_)
                  have hS0 := (⟨_, _, (Le.refl _), (St.up (St.up (St.up (St.up (St.up (St.up (St.up hst60 6 rfl) 6 rfl) 6 rfl) 6 rfl) 6 rfl) 6 rfl) 6 rfl)⟩ : (fun w => ∃ ζ Y, Le z56 ζ ∧ Ht w0 (frz ζ :: (blk g15 [vu8 p1.Op, vu8 p1.Name, vu8 p1.To, .slice A12 p1.Bytes.length c12, vi16 p1.N] 49) :: (blk g0 [.map (some gm1), .map (some gm2), .slice A3 p0.wait_.length c3, .slice A4 p0.files_.length c4, vi p0.room_, vi p0.stop_, vb p0.down_, vi p0.calls_] 60) :: (ob gm1 (.map E1 c1)) :: (ob gm2 (.map E2 c2)) :: (orow 52 1 (.slice A3 p0.wait_.length c3) p0.wait_.length d3) :: (orow 86 1 (.slice A4 p0.files_.length c4) p0.files_.length d4) :: Y) w) _)
                  refine Any.takeE 0 rfl rfl rfl rfl (by kernel_rfl) (fun _ _ _ _ _ h => h) ((Ex.move rfl).s) ?_
                  refine Any.takeE 2 rfl rfl rfl rfl (by kernel_rfl) (fun _ _ _ _ _ h => h) ((Ex.move rfl).s) ?_
                  refine Any.takeE 3 rfl rfl rfl rfl (by kernel_rfl) (fun _ _ _ _ _ h => h) ((Ex.len' rfl rfl rfl Try.underlying22).s) ?_
                  refine Any.takeE 5 rfl rfl rfl rfl (by kernel_rfl) (fun _ _ _ _ _ h => h) ((Ex.move rfl).s) ?_
                  refine Any.takeE 6 rfl rfl rfl rfl (by kernel_rfl) (fun _ _ _ _ _ h => h) ((Ex.nilCheck rfl).s) ?_
                  refine Any.takeE 7 rfl rfl rfl rfl (by kernel_rfl) (fun _ _ _ _ _ h => h) ((Ex.fieldAddr rfl Try.underlying60 rfl sz3).s) ?_
                  refine Any.take 0 8 rfl rfl rfl rfl rfl (by kernel_rfl) (fun _ _ _ _ _ h => h) (ExS.load rfl Try.underlying3 rfl (fun w hS => by obtain ⟨_, _, _, hs⟩ := hS; exact hs.cell (i := 2) rfl rfl)) hS0 ?_
                  obtain ⟨y62, hy62, hf⟩ := bnd hf
                  refine Any.one 1 (by kernel_rfl) rfl rfl (One.of_ops rfl ?_)
                  refine Ops.call rfl rfl Try.func34 (by kernel_rfl) (by kernel_rfl) rfl (go_law04_Model_used.walk (Γ2 := Γ2) (p0 := p0) (ar2 := ar2) (hst := (St.mid (B := [blk g0 [.map (some gm1), .map (some gm2), .slice A3 p0.wait_.length c3, .slice A4 p0.files_.length c4, vi p0.room_, vi p0.stop_, vb p0.down_, vi p0.calls_] 60, ob gm1 (.map E1 c1), ob gm2 (.map E2 c2), orow 52 1 (.slice A3 p0.wait_.length c3) p0.wait_.length d3, orow 86 1 (.slice A4 p0.files_.length c4) p0.files_.length d4]) (M := [blk g15 [vu8 p1.Op, vu8 p1.Name, vu8 p1.To, .slice A12 p1.Bytes.length c12, vi16 p1.N] 49]) (Ha := Ha58) (St.up (St.up (St.up (St.up (St.up (St.up (St.up hst60 1 rfl) 6 rfl) 6 rfl) 6 rfl) 6 rfl) 6 rfl) 6 rfl))) (f1 := f1) (f2 := f2) (f3 := f3) (f4 := f4) (hA2 := hA58) (Ha2 := Ha58) (hf := hy62)) ?_
                  rintro _ w62 ⟨z62, Ha64, rfl, hz62, hA64, hst62⟩
                  replace hst62 : Ht w0 (frz z62 :: (blk g0 [.map (some gm1), .map (some gm2), .slice A3 p0.wait_.length c3, .slice A4 p0.files_.length c4, vi p0.room_, vi p0.stop_, vb p0.down_, vi p0.calls_] 60) :: (ob gm1 (.map E1 c1)) :: (ob gm2 (.map E2 c2)) :: (orow 52 1 (.slice A3 p0.wait_.length c3) p0.wait_.length d3) :: (orow 86 1 (.slice A4 p0.files_.length c4) p0.files_.length d4) :: (blk g15 [vu8 p1.Op, vu8 p1.Name, vu8 p1.To, .slice A12 p1.Bytes.length c12, vi16 p1.N] 49) :: (Ha64 ++ X)) _ := St.mid (B := [blk g0 [.map (some gm1), .map (some gm2), .slice A3 p0.wait_.length c3, .slice A4 p0.files_.length c4, vi p0.room_, vi p0.stop_, vb p0.down_, vi p0.calls_] 60, ob gm1 (.map E1 c1), ob gm2 (.map E2 c2), orow 52 1 (.slice A3 p0.wait_.length c3) p0.wait_.length d3, orow 86 1 (.slice A4 p0.files_.length c4) p0.files_.length d4]) (M := Ha64) (Ha := [blk g15 [vu8 p1.Op, vu8 p1.Name, vu8 p1.To, .slice A12 p1.Bytes.length c12, vi16 p1.N] 49]) hst62
                  refine ⟨_, rfl, Ops.stop ?_⟩
                  replace f14 := f14.mono hz62; replace f20 := f20.mono hz62; replace f1 := f1.mono hz62; replace f2 := f2.mono hz62; replace f3 := f3.mono hz62; replace f4 := f4.mono hz62; replace f12 := f12.mono hz62
                  replace hy59_0 := hy59_0.trans hz62
                  replace hy59_1 := hy59_1.trans hz62
                  replace hy59_2 := hy59_2.trans hz62
                  replace hz59 := hz59.trans hz62
                  replace hm61 := hm61.trans hz62
                  have hS0 := (⟨_, _, hm61, (St.up (St.up (St.up (St.up (St.up (St.up (St.up hst62 5 rfl) 5 rfl) 5 rfl) 5 rfl) 5 rfl) 6 rfl) 6 rfl)⟩ : (fun w => ∃ ζ Y, Le z56 ζ ∧ Ht w0 (frz ζ :: (blk g15 [vu8 p1.Op, vu8 p1.Name, vu8 p1.To, .slice A12 p1.Bytes.length c12, vi16 p1.N] 49) :: (blk g0 [.map (some gm1), .map (some gm2), .slice A3 p0.wait_.length c3, .slice A4 p0.files_.length c4, vi p0.room_, vi p0.stop_, vb p0.down_, vi p0.calls_] 60) :: (ob gm1 (.map E1 c1)) :: (ob gm2 (.map E2 c2)) :: (orow 52 1 (.slice A3 p0.wait_.length c3) p0.wait_.length d3) :: (orow 86 1 (.slice A4 p0.files_.length c4) p0.files_.length d4) :: Y) w) _)
                  refine ⟨⟨.inr (fun _ => hS0), trivial⟩, ?_⟩
                  refine Any.takeE 4 rfl rfl rfl rfl (by kernel_rfl) (fun _ _ _ _ _ h => h) ((Ex.add rfl rfl).s) ?_
                  refine Any.takeE 9 rfl rfl rfl rfl (by kernel_rfl) (fun _ _ _ _ _ h => h) ((Ex.gtr rfl rfl).s) ?_
                  refine Any.done (by kernel_rfl) ?_
                  refine Run.cond rfl (fun hc => ?_) (fun hc => ?_)
                  · replace hf := ifT (dec_T hc) hf
                    refine Run.seq ?_
                    refine Run.region ?_
                    refine Ops.ex (Ex.assign rfl) rfl rfl rfl ?_
                    refine Ops.nil ?_
                    obtain rfl := Option.some.inj hf
                    exact Run.retV [vi 4] rfl ⟨rfl, trivial⟩ ⟨z62, gm1, E1, c1, gm2, E2, c2, A3, c3, d3, A4, c4, d4, Ha64, Γ2, rfl, hy59_0, f1, f2, f3, f4, hA64, hGi2, (St.forget hst62 6)⟩
                  · replace hf := ifF (dec_F hc) hf
                    refine Run.skip ?_
                    exact Run.sub (by exact subB_spec ⟨rfl, rfl, rfl, rfl, rfl, rfl, rfl, trivial⟩) (hj33 _ _ ⟨Ha64, z62, hf, rfl, hz59, hy59_0, hy59_1, hy59_2, hA64, (St.up (St.up (St.up (St.up (St.up (St.up (St.up hst62 5 rfl) 5 rfl) 5 rfl) 5 rfl) 5 rfl) 6 rfl) 6 rfl)⟩)
                · replace hf := ifFb hc hf
                  refine Run.seq ?_
                  refine Run.region ?_
                  refine Ops.ex (Ex.eql8 (a := (p1.Op % 12)) (b := 3) rfl rfl) rfl rfl rfl ?_
                  refine Ops.ex (Ex.assign rfl) rfl rfl rfl ?_
                  refine Ops.nil ?_
                  refine Run.cond rfl (fun hc => ?_) (fun hc => ?_)
                  · replace hf := ifT (dec_T hc) hf
                    refine Run.seq ?_
                    refine Run.region ?_
                    refine Ops.ex (Ex.move rfl) rfl rfl rfl ?_
                    refine Ops.ex (Ex.lss rfl rfl) rfl rfl rfl ?_
                    refine Ops.ex (Ex.move rfl) rfl rfl rfl ?_
                    refine Ops.case 69 rfl (fun hc => ?_) (fun hc => ?_)
                    · replace hf := ifT (dec_T hc) hf
                      refine Ops.off rfl rfl ?_
                      refine Ops.off rfl rfl ?_
                      refine Ops.off rfl rfl ?_
                      refine Ops.off rfl rfl ?_
                      refine Ops.off rfl rfl ?_
                      refine Ops.off rfl rfl ?_
                      refine Ops.off rfl rfl ?_
                      refine Ops.ex (Ex.pickT rfl rfl) rfl rfl rfl ?_
                      refine Ops.nil ?_
                      refine Run.condT rfl rfl ?_
                      refine Run.seq ?_
                      refine Run.region ?_
                      refine Ops.ex (Ex.assign rfl) rfl rfl rfl ?_
                      refine Ops.nil ?_
                      obtain rfl := Option.some.inj hf
                      exact Run.retV [vi 14] rfl ⟨rfl, trivial⟩ ⟨z56, gm1, E1, c1, gm2, E2, c2, A3, c3, d3, A4, c4, d4, Ha58, Γ2, rfl, hy59_0, f1, f2, f3, f4, hA58, hGi2, (St.forget hst59 1)⟩
                    · replace hf := ifF (dec_F hc) hf
                      refine Ops.on rfl ?_
                      refine Ops.ex (Ex.move rfl) rfl rfl rfl ?_
                      refine Ops.on rfl ?_
                      refine Ops.ex (Ex.move rfl) rfl rfl rfl ?_
                      refine Ops.on rfl ?_
                      have hm66 := Le.refl z56
                      obtain ⟨i65, hi65, hf⟩ := bnd hf
                      obtain ⟨y65, hy65, hf⟩ := bnd hf
                      obtain ⟨g65, hA65, hg65⟩ := PtA.some f20 hi65
                      obtain ⟨rs65, Hr65, hO65, hP65, hcl65, hba65⟩ := ArL.open O2.mono hA58 hg65 hy65
                      obtain rfl := hO65
                      have hst65 : Ht w0 (frz z56 :: (blk g15 [vu8 p1.Op, vu8 p1.Name, vu8 p1.To, .slice A12 p1.Bytes.length c12, vi16 p1.N] 49) :: (blk g0 [.map (some gm1), .map (some gm2), .slice A3 p0.wait_.length c3, .slice A4 p0.files_.length c4, vi p0.room_, vi p0.stop_, vb p0.down_, vi p0.calls_] 60) :: (ob gm1 (.map E1 c1)) :: (ob gm2 (.map E2 c2)) :: (orow 52 1 (.slice A3 p0.wait_.length c3) p0.wait_.length d3) :: (orow 86 1 (.slice A4 p0.files_.length c4) p0.files_.length d4) :: (blk g65 [vs y65.b_, vi y65.safe_] 64) :: (Hr65 ++ X)) _ := St.tailP (B := [blk g15 [vu8 p1.Op, vu8 p1.Name, vu8 p1.To, .slice A12 p1.Bytes.length c12, vi16 p1.N] 49, blk g0 [.map (some gm1), .map (some gm2), .slice A3 p0.wait_.length c3, .slice A4 p0.files_.length c4, vi p0.room_, vi p0.stop_, vb p0.down_, vi p0.calls_] 60, ob gm1 (.map E1 c1), ob gm2 (.map E2 c2), orow 52 1 (.slice A3 p0.wait_.length c3) p0.wait_.length d3, orow 86 1 (.slice A4 p0.files_.length c4) p0.files_.length d4]) hst59 hP65
                      refine Ops.ex (Ex.nilP hA65 rfl) rfl rfl rfl ?_
                      refine Ops.on rfl ?_
                      refine Ops.ex (Ex.fieldAddr rfl Try.underlying64 rfl sz9) rfl rfl rfl ?_
                      refine Ops.on rfl ?_
                      refine Ops.load rfl Try.underlying9 rfl (hst65.cell (i := 7) rfl rfl) rfl ?_
                      refine Ops.on rfl ?_
                      refine Ops.ex (Ex.lenT rfl rfl rfl Try.underlying9) rfl rfl rfl ?_
                      refine Ops.on rfl ?_
                      refine Ops.ex (Ex.gtr rfl rfl) rfl rfl rfl ?_
                      refine Ops.ex (Ex.pickF rfl rfl) rfl rfl rfl ?_
                      refine Ops.nil ?_
                      have hA69 : Ar2 z56 Γ2 ar2 ([blk g65 [vs y65.b_, vi y65.safe_] 64] ++ Hr65) := hba65 _ hm66 _ rfl
                      have hst69 : Ht w0 (frz z56 :: (blk g15 [vu8 p1.Op, vu8 p1.Name, vu8 p1.To, .slice A12 p1.Bytes.length c12, vi16 p1.N] 49) :: (blk g0 [.map (some gm1), .map (some gm2), .slice A3 p0.wait_.length c3, .slice A4 p0.files_.length c4, vi p0.room_, vi p0.stop_, vb p0.down_, vi p0.calls_] 60) :: (ob gm1 (.map E1 c1)) :: (ob gm2 (.map E2 c2)) :: (orow 52 1 (.slice A3 p0.wait_.length c3) p0.wait_.length d3) :: (orow 86 1 (.slice A4 p0.files_.length c4) p0.files_.length d4) :: (([blk g65 [vs y65.b_, vi y65.safe_] 64] ++ Hr65) ++ X)) _ := hst65
                      refine Run.cond rfl (fun hc => ?_) (fun hc => ?_)
                      · replace hf := ifT (dec_T hc) hf
                        refine Run.seq ?_
                        refine Run.region ?_
                        refine Ops.ex (Ex.assign rfl) rfl rfl rfl ?_
                        refine Ops.nil ?_
                        obtain rfl := Option.some.inj hf
                        exact Run.retV [vi 14] rfl ⟨rfl, trivial⟩ ⟨z56, gm1, E1, c1, gm2, E2, c2, A3, c3, d3, A4, c4, d4, ([blk g65 [vs y65.b_, vi y65.safe_] 64] ++ Hr65), Γ2, rfl, hy59_0, f1, f2, f3, f4, hA69, hGi2, (St.forget hst69 1)⟩
                      · replace hf := ifF (dec_F hc) hf
                        refine Run.skip ?_
                        exact Run.sub (by exact subB_spec ⟨rfl, rfl, rfl, rfl, rfl, rfl, rfl, trivial⟩) (hj33 _ _ ⟨([blk g65 [vs y65.b_, vi y65.safe_] 64] ++ Hr65), z56, hf, rfl, hz59, hy59_0, hy59_1, hy59_2, hA69, hst69⟩)
                  · replace hf := ifF (dec_F hc) hf
                    refine Run.seq ?_
                    refine Run.region ?_
                    refine Ops.ex (Ex.eql8 (a := (p1.Op % 12)) (b := 6) rfl rfl) rfl rfl rfl ?_
                    refine Ops.ex (Ex.assign rfl) rfl rfl rfl ?_
                    refine Ops.nil ?_
                    refine Run.cond rfl (fun hc => ?_) (fun hc => ?_)
                    · replace hf := ifT (dec_T hc) hf
                      refine Run.seq ?_
                      refine Run.region ?_
                      refine Ops.ex (Ex.move rfl) rfl rfl rfl ?_
                      refine Ops.ex (Ex.fieldAddr rfl Try.underlying49 rfl sz5) rfl rfl rfl ?_
                      refine Ops.load rfl Try.underlying5 rfl (hst59.cell (i := 1) rfl rfl) rfl ?_
                      obtain ⟨y70, hy70, hf⟩ := bnd hf
                      refine Ops.call rfl rfl Try.func41 (by kernel_rfl) (by kernel_rfl) rfl (go_law04_name.walk (p0 := p1.To) (hst := hst59) (hf := hy70)) ?_
                      rintro _ w70 ⟨z70, rfl, hz70, hst70⟩
                      refine ⟨_, rfl, ?_⟩
                      replace f14 := f14.mono hz70; replace f20 := f20.mono hz70; replace f12 := f12.mono hz70; replace f1 := f1.mono hz70; replace f2 := f2.mono hz70; replace f3 := f3.mono hz70; replace f4 := f4.mono hz70; replace hA58 := hA58.mono hz70
                      replace hy59_0 := hy59_0.trans hz70
                      replace hy59_1 := hy59_1.trans hz70
                      replace hy59_2 := hy59_2.trans hz70
                      replace hz59 := hz59.trans hz70
                      refine Ops.ex (Ex.eqlT rfl rfl) rfl rfl rfl ?_
                      refine Ops.nil ?_
                      refine Run.cond rfl (fun hc => ?_) (fun hc => ?_)
                      · replace hf := ifT (dec_T hc) hf
                        refine Run.seq ?_
                        refine Run.region ?_
                        refine Ops.ex (Ex.assign rfl) rfl rfl rfl ?_
                        refine Ops.nil ?_
                        obtain rfl := Option.some.inj hf
                        exact Run.retV [vi 14] rfl ⟨rfl, trivial⟩ ⟨z70, gm1, E1, c1, gm2, E2, c2, A3, c3, d3, A4, c4, d4, Ha58, Γ2, rfl, hy59_0, f1, f2, f3, f4, hA58, hGi2, (St.forget hst70 1)⟩
                      · replace hf := ifF (dec_F hc) hf
                        refine Run.skip ?_
                        exact Run.sub (by exact subB_spec ⟨rfl, rfl, rfl, rfl, rfl, rfl, rfl, trivial⟩) (hj33 _ _ ⟨Ha58, z70, hf, rfl, hz59, hy59_0, hy59_1, hy59_2, hA58, hst70⟩)
                    · replace hf := ifF (dec_F hc) hf
                      refine Run.skip ?_
                      exact Run.sub (by exact subB_spec ⟨rfl, rfl, rfl, rfl, rfl, rfl, rfl, trivial⟩) (hj33 _ _ ⟨Ha58, z56, hf, rfl, hz59, hy59_0, hy59_1, hy59_2, hA58, hst59⟩)
          · rintro e' w72 ⟨Ha54, z53, hf, rfl, hz72, hy72_0, hy72_1, hy72_2, hA54, hst72⟩
            replace f14 := f14.mono hz72; replace f20 := f20.mono hz72; replace f12 := f12.mono hz72; replace f1 := f1.mono hz72; replace f2 := f2.mono hz72; replace f3 := f3.mono hz72; replace f4 := f4.mono hz72
            unfold go_law04_Model_do.j3 at hf
            refine Run.endBlk ?_
            refine Run.seq ?_
            refine Run.region ?_
            refine Ops.ex (Ex.move rfl) rfl rfl rfl ?_
            obtain ⟨y73, hy73, hf⟩ := bnd hf
            refine Ops.call rfl rfl Try.func47 (by kernel_rfl) (by kernel_rfl) rfl (go_law04_Model_call.walk (Γ2 := Γ2) (p0 := p0) (hst := (St.up (St.up (St.up (St.up (St.up (St.up (St.up hst72 1 rfl) 6 rfl) 6 rfl) 6 rfl) 6 rfl) 6 rfl) 6 rfl)) (f1 := f1) (f2 := f2) (f3 := f3) (f4 := f4) (hf := hy73)) ?_
            rintro _ w73 ⟨z73, gm75, E75, c75, gm76, E76, c76, A77, c77, d77, A78, c78, d78, rfl, hz73, f75, f76, f77, f78, hst73⟩
            refine ⟨_, rfl, ?_⟩
            replace f14 := f14.mono hz73; replace f20 := f20.mono hz73; replace f12 := f12.mono hz73; replace hA54 := hA54.mono hz73
            replace hy72_0 := hy72_0.trans hz73
            replace hy72_1 := hy72_1.trans hz73
            replace hy72_2 := hy72_2.trans hz73
            replace hz72 := hz72.trans hz73
            refine Ops.ex (Ex.assign rfl) rfl rfl rfl ?_
            refine Ops.nil ?_
            refine Run.seq ?_
            refine Run.seq ?_
            have hm84 := Le.refl z73
            apply Run.jn (fun e' w' => ∃ (b87 : Bool) (Ha86 : List Res) (z85 : Zp), go_law04_Model_do.j5 p0 p1 p2 ar2 y17 y73 b87 = some r ∧ e' = [(0, .pointer (some ⟨g0, 0, none⟩)), (2, .slice A14 p2.length c14), (4, .pointer (some ⟨g15, 0, none⟩)), (7, vs y17), (8, vi p1.N.toInt), (9, .pointer A20), (10, vu8 (p1.Op % 12)), (11, vb y73.1), (96, vb b87)] ∧ Le z73 z85 ∧ Le z0 z85 ∧ Le z17 z85 ∧ Le z23 z85 ∧ Le z29 z85 ∧ Ar2 z85 Γ2 ar2 Ha86 ∧ Ht w0 (frz z85 :: (blk g0 [.map (some gm75), .map (some gm76), .slice A77 y73.2.wait_.length c77, .slice A78 y73.2.files_.length c78, vi y73.2.room_, vi y73.2.stop_, vb y73.2.down_, vi y73.2.calls_] 60) :: (ob gm75 (.map E75 c75)) :: (ob gm76 (.map E76 c76)) :: (orow 52 1 (.slice A77 y73.2.wait_.length c77) y73.2.wait_.length d77) :: (orow 86 1 (.slice A78 y73.2.files_.length c78) y73.2.files_.length d78) :: (blk g15 [vu8 p1.Op, vu8 p1.Name, vu8 p1.To, .slice A12 p1.Bytes.length c12, vi16 p1.N] 49) :: (Ha86 ++ X)) w')
            · intro hj83
              refine Run.region ?_
              refine Ops.ex (Ex.move rfl) rfl rfl rfl ?_
              refine Ops.ex (Ex.eql8 (a := (p1.Op % 12)) (b := 2) rfl rfl) rfl rfl rfl ?_
              refine Ops.ex (Ex.move rfl) rfl rfl rfl ?_
              refine Ops.case 89 rfl (fun hc => ?_) (fun hc => ?_)
              · replace hf := ifT (dec_T hc) hf
                refine Ops.off rfl rfl ?_
                refine Ops.off rfl rfl ?_
                refine Ops.ex (Ex.pickT rfl rfl) rfl rfl rfl ?_
                refine Ops.ex (Ex.move rfl) rfl rfl rfl ?_
                refine Ops.off rfl rfl ?_
                refine Ops.off rfl rfl ?_
                refine Ops.ex (Ex.pickT rfl rfl) rfl rfl rfl ?_
                refine Ops.nil ?_
                exact Run.sub (by exact subB_spec ⟨rfl, rfl, rfl, rfl, rfl, rfl, rfl, rfl, rfl, trivial⟩) (hj83 _ _ ⟨true, Ha54, z73, hf, rfl, hm84, hy72_0, hy72_1, hy72_2, hz72, hA54, hst73⟩)
              · replace hf := ifF (dec_F hc) hf
                refine Ops.on rfl ?_
                refine Ops.ex (Ex.move rfl) rfl rfl rfl ?_
                refine Ops.on rfl ?_
                refine Ops.ex (Ex.eql8 (a := (p1.Op % 12)) (b := 7) rfl rfl) rfl rfl rfl ?_
                refine Ops.ex (Ex.pickF rfl rfl) rfl rfl rfl ?_
                refine Ops.ex (Ex.move rfl) rfl rfl rfl ?_
                refine Ops.case 93 rfl (fun hc => ?_) (fun hc => ?_)
                · replace hf := ifT (dec_T hc) hf
                  refine Ops.off rfl rfl ?_
                  refine Ops.off rfl rfl ?_
                  refine Ops.ex (Ex.pickT rfl rfl) rfl rfl rfl ?_
                  refine Ops.nil ?_
                  exact Run.sub (by exact subB_spec ⟨rfl, rfl, rfl, rfl, rfl, rfl, rfl, rfl, rfl, trivial⟩) (hj83 _ _ ⟨true, Ha54, z73, hf, rfl, hm84, hy72_0, hy72_1, hy72_2, hz72, hA54, hst73⟩)
                · replace hf := ifF (dec_F hc) hf
                  refine Ops.on rfl ?_
                  refine Ops.ex (Ex.move rfl) rfl rfl rfl ?_
                  refine Ops.on rfl ?_
                  refine Ops.ex (Ex.eql8 (a := (p1.Op % 12)) (b := 8) rfl rfl) rfl rfl rfl ?_
                  refine Ops.ex (Ex.pickF rfl rfl) rfl rfl rfl ?_
                  refine Ops.nil ?_
                  exact Run.sub (by exact subB_spec ⟨rfl, rfl, rfl, rfl, rfl, rfl, rfl, rfl, rfl, trivial⟩) (hj83 _ _ ⟨decide (p1.Op % 12 = 8), Ha54, z73, hf, rfl, hm84, hy72_0, hy72_1, hy72_2, hz72, hA54, hst73⟩)
            · rintro e' w88 ⟨b87, Ha86, z85, hf, rfl, hz88, hy88_0, hy88_1, hy88_2, hy88_3, hA86, hst88⟩
              replace f14 := f14.mono hz88; replace f20 := f20.mono hz88; replace f75 := f75.mono hz88; replace f76 := f76.mono hz88; replace f77 := f77.mono hz88; replace f78 := f78.mono hz88; replace f12 := f12.mono hz88
              unfold go_law04_Model_do.j5 at hf
              have hm98 := Le.refl z85
              apply Run.jn (fun e' w' => ∃ (ar100 : List law04file) (Ha100 : List Res) (z99 : Zp), go_law04_Model_do.j6 p0 p1 y17 y73 ar100 = some r ∧ e' = [(0, .pointer (some ⟨g0, 0, none⟩)), (4, .pointer (some ⟨g15, 0, none⟩)), (7, vs y17), (8, vi p1.N.toInt), (9, .pointer A20), (10, vu8 (p1.Op % 12)), (11, vb y73.1)] ∧ Le z85 z99 ∧ Le z0 z99 ∧ Le z17 z99 ∧ Le z23 z99 ∧ Le z29 z99 ∧ Le z73 z99 ∧ Ar2 z99 Γ2 ar100 Ha100 ∧ Ht w0 (frz z99 :: (blk g0 [.map (some gm75), .map (some gm76), .slice A77 y73.2.wait_.length c77, .slice A78 y73.2.files_.length c78, vi y73.2.room_, vi y73.2.stop_, vb y73.2.down_, vi y73.2.calls_] 60) :: (ob gm75 (.map E75 c75)) :: (ob gm76 (.map E76 c76)) :: (orow 52 1 (.slice A77 y73.2.wait_.length c77) y73.2.wait_.length d77) :: (orow 86 1 (.slice A78 y73.2.files_.length c78) y73.2.files_.length d78) :: (blk g15 [vu8 p1.Op, vu8 p1.Name, vu8 p1.To, .slice A12 p1.Bytes.length c12, vi16 p1.N] 49) :: (Ha100 ++ X)) w')
              · intro hj89
                refine Run.cond rfl (fun hc => ?_) (fun hc => ?_)
                · replace hf := ifTb hc hf
                  obtain ⟨i101, hi101, hf⟩ := bnd hf
                  obtain ⟨y101, hy101, hf⟩ := bnd hf
                  obtain ⟨g101, hA101, hg101⟩ := PtA.some f20 hi101
                  obtain ⟨rs101, Hr101, hO101, hP101, hcl101, hba101⟩ := ArL.open O2.mono hA86 hg101 hy101
                  obtain rfl := hO101
                  have hst101 : Ht w0 (frz z85 :: (blk g0 [.map (some gm75), .map (some gm76), .slice A77 y73.2.wait_.length c77, .slice A78 y73.2.files_.length c78, vi y73.2.room_, vi y73.2.stop_, vb y73.2.down_, vi y73.2.calls_] 60) :: (ob gm75 (.map E75 c75)) :: (ob gm76 (.map E76 c76)) :: (orow 52 1 (.slice A77 y73.2.wait_.length c77) y73.2.wait_.length d77) :: (orow 86 1 (.slice A78 y73.2.files_.length c78) y73.2.files_.length d78) :: (blk g15 [vu8 p1.Op, vu8 p1.Name, vu8 p1.To, .slice A12 p1.Bytes.length c12, vi16 p1.N] 49) :: (blk g101 [vs y101.b_, vi y101.safe_] 64) :: (Hr101 ++ X)) _ := St.tailP (B := [blk g0 [.map (some gm75), .map (some gm76), .slice A77 y73.2.wait_.length c77, .slice A78 y73.2.files_.length c78, vi y73.2.room_, vi y73.2.stop_, vb y73.2.down_, vi y73.2.calls_] 60, ob gm75 (.map E75 c75), ob gm76 (.map E76 c76), orow 52 1 (.slice A77 y73.2.wait_.length c77) y73.2.wait_.length d77, orow 86 1 (.slice A78 y73.2.files_.length c78) y73.2.files_.length d78, blk g15 [vu8 p1.Op, vu8 p1.Name, vu8 p1.To, .slice A12 p1.Bytes.length c12, vi16 p1.N] 49]) hst88 hP101
                  refine Run.drawH [([], fun w => ∃ ζ Y, Le z85 ζ ∧ Ht w0 (frz ζ :: (blk g0 [.map (some gm75), .map (some gm76), .slice A77 y73.2.wait_.length c77, .slice A78 y73.2.files_.length c78, vi y73.2.room_, vi y73.2.stop_, vb y73.2.down_, vi y73.2.calls_] 60) :: (ob gm75 (.map E75 c75)) :: (ob gm76 (.map E76 c76)) :: (orow 52 1 (.slice A77 y73.2.wait_.length c77) y73.2.wait_.length d77) :: (orow 86 1 (.slice A78 y73.2.files_.length c78) y73.2.files_.length d78) :: (blk g15 [vu8 p1.Op, vu8 p1.Name, vu8 p1.To, .slice A12 p1.Bytes.length c12, vi16 p1.N] 49) :: Y) w), ([10], fun w => ∃ ζ Y, Le z85 ζ ∧ Ht w0 (frz ζ :: (blk g101 [vs y101.b_, vi y101.safe_] 64) :: Y) w)] (by kernel_rfl) hst101 (fun w104 hst104 => ?_)
                  have hS0 := (⟨_, _, (Le.refl _), (St.up (St.up (St.up (St.up (St.up (St.up (St.up hst104 6 rfl) 6 rfl) 6 rfl) 6 rfl) 6 rfl) 6 rfl) 6 rfl)⟩ : (fun w => ∃ ζ Y, Le z85 ζ ∧ Ht w0 (frz ζ :: (blk g0 [.map (some gm75), .map (some gm76), .slice A77 y73.2.wait_.length c77, .slice A78 y73.2.files_.length c78, vi y73.2.room_, vi y73.2.stop_, vb y73.2.down_, vi y73.2.calls_] 60) :: (ob gm75 (.map E75 c75)) :: (ob gm76 (.map E76 c76)) :: (orow 52 1 (.slice A77 y73.2.wait_.length c77) y73.2.wait_.length d77) :: (orow 86 1 (.slice A78 y73.2.files_.length c78) y73.2.files_.length d78) :: (blk g15 [vu8 p1.Op, vu8 p1.Name, vu8 p1.To, .slice A12 p1.Bytes.length c12, vi16 p1.N] 49) :: Y) w) _)
                  have hS1 := (⟨_, _, (Le.refl _), (St.up (St.up hst104 7 rfl) 1 rfl)⟩ : (fun w => ∃ ζ Y, Le z85 ζ ∧ Ht w0 (frz ζ :: (blk g101 [vs y101.b_, vi y101.safe_] 64) :: Y) w) _)
                  refine Any.takeE 0 rfl rfl rfl rfl (by kernel_rfl) (fun _ _ _ _ _ h => h) ((Ex.move rfl).s) ?_
                  refine Any.takeE 1 rfl rfl rfl rfl (by kernel_rfl) (fun _ _ _ _ _ h => h) ((Ex.move rfl).s) ?_
                  refine Any.takeE 2 rfl rfl rfl rfl (by kernel_rfl) (fun _ _ _ _ _ h => h) ((Ex.nilP hA101 rfl).s) ?_
                  refine Any.takeE 3 rfl rfl rfl rfl (by kernel_rfl) (fun _ _ _ _ _ h => h) ((Ex.fieldAddr rfl Try.underlying64 rfl sz9).s) ?_
                  refine Any.take 1 4 rfl rfl rfl rfl rfl (by kernel_rfl) (fun _ _ _ _ _ h => h) (ExS.load rfl Try.underlying9 rfl (fun w hS => by obtain ⟨_, _, _, hs⟩ := hS; exact hs.cell (i := 1) rfl rfl)) hS1 ?_
                  refine Any.takeE 5 rfl rfl rfl rfl (by kernel_rfl) (fun _ _ _ _ _ h => h) ((Ex.move rfl).s) ?_
                  refine Any.one 6 (by kernel_rfl) rfl rfl (One.of_ops rfl ?_)
                  refine Ops.str8 (f14.at_ hst104) rfl Try.underlying22 Try.underlying5 Try.underlying9 rfl (Ops.stop ?_)
                  have hS0 := (⟨_, _, (Le.refl _), (St.up (St.up (St.up (St.up (St.up (St.up (St.up hst104 6 rfl) 6 rfl) 6 rfl) 6 rfl) 6 rfl) 6 rfl) 6 rfl)⟩ : (fun w => ∃ ζ Y, Le z85 ζ ∧ Ht w0 (frz ζ :: (blk g0 [.map (some gm75), .map (some gm76), .slice A77 y73.2.wait_.length c77, .slice A78 y73.2.files_.length c78, vi y73.2.room_, vi y73.2.stop_, vb y73.2.down_, vi y73.2.calls_] 60) :: (ob gm75 (.map E75 c75)) :: (ob gm76 (.map E76 c76)) :: (orow 52 1 (.slice A77 y73.2.wait_.length c77) y73.2.wait_.length d77) :: (orow 86 1 (.slice A78 y73.2.files_.length c78) y73.2.files_.length d78) :: (blk g15 [vu8 p1.Op, vu8 p1.Name, vu8 p1.To, .slice A12 p1.Bytes.length c12, vi16 p1.N] 49) :: Y) w) _)
                  have hS1 := (⟨_, _, (Le.refl _), (St.up (St.up hst104 7 rfl) 1 rfl)⟩ : (fun w => ∃ ζ Y, Le z85 ζ ∧ Ht w0 (frz ζ :: (blk g101 [vs y101.b_, vi y101.safe_] 64) :: Y) w) _)
                  refine ⟨⟨.inr (fun _ => hS0), .inr (fun _ => hS1), trivial⟩, ?_⟩
                  obtain ⟨s105, hy105, hf⟩ := bnd hf
                  refine Any.takeE 7 rfl rfl rfl rfl (by kernel_rfl) (fun _ _ _ _ _ h => h) ((Ex.addT hy105 rfl rfl).s) ?_
                  refine Any.takeE 8 rfl rfl rfl rfl (by kernel_rfl) (fun _ _ _ _ _ h => h) ((Ex.nilP hA101 rfl).s) ?_
                  refine Any.takeE 9 rfl rfl rfl rfl (by kernel_rfl) (fun _ _ _ _ _ h => h) ((Ex.fieldAddr rfl Try.underlying64 rfl sz9).s) ?_
                  refine Any.one 10 (by kernel_rfl) rfl rfl (One.of_ops rfl ?_)
                  refine Ops.store 7 [vs s105] hst104 rfl rfl rfl rfl sz9 rfl (by simp [Value.oneCell']) (by simp) (fun w106 hst106 => Ops.stop ?_)
                  have hS0 := (⟨_, _, (Le.refl _), (St.up (St.up (St.up (St.up (St.up (St.up (St.up hst106 6 rfl) 6 rfl) 6 rfl) 6 rfl) 6 rfl) 6 rfl) 6 rfl)⟩ : (fun w => ∃ ζ Y, Le z85 ζ ∧ Ht w0 (frz ζ :: (blk g0 [.map (some gm75), .map (some gm76), .slice A77 y73.2.wait_.length c77, .slice A78 y73.2.files_.length c78, vi y73.2.room_, vi y73.2.stop_, vb y73.2.down_, vi y73.2.calls_] 60) :: (ob gm75 (.map E75 c75)) :: (ob gm76 (.map E76 c76)) :: (orow 52 1 (.slice A77 y73.2.wait_.length c77) y73.2.wait_.length d77) :: (orow 86 1 (.slice A78 y73.2.files_.length c78) y73.2.files_.length d78) :: (blk g15 [vu8 p1.Op, vu8 p1.Name, vu8 p1.To, .slice A12 p1.Bytes.length c12, vi16 p1.N] 49) :: Y) w) _)
                  refine ⟨⟨.inr (fun _ => hS0), .inl (by decide), trivial⟩, ?_⟩
                  refine Any.done (by kernel_rfl) ?_
                  have hA107 : Ar2 z85 Γ2 (ar2.set i101 (⟨s105, y101.safe_⟩ : law04file)) ([blk g101 [vs s105, vi y101.safe_] 64] ++ Hr101) := hcl101 _ hm98 _ _ rfl
                  obtain ⟨ar107, hy107, hf⟩ := bnd hf
                  rw [Option.some.inj hy107] at hA107
                  have hst107 : Ht w0 (frz z85 :: (blk g0 [.map (some gm75), .map (some gm76), .slice A77 y73.2.wait_.length c77, .slice A78 y73.2.files_.length c78, vi y73.2.room_, vi y73.2.stop_, vb y73.2.down_, vi y73.2.calls_] 60) :: (ob gm75 (.map E75 c75)) :: (ob gm76 (.map E76 c76)) :: (orow 52 1 (.slice A77 y73.2.wait_.length c77) y73.2.wait_.length d77) :: (orow 86 1 (.slice A78 y73.2.files_.length c78) y73.2.files_.length d78) :: (blk g15 [vu8 p1.Op, vu8 p1.Name, vu8 p1.To, .slice A12 p1.Bytes.length c12, vi16 p1.N] 49) :: (([blk g101 [vs s105, vi y101.safe_] 64] ++ Hr101) ++ X)) _ := hst106
                  exact Run.sub (by exact subB_spec ⟨rfl, rfl, rfl, rfl, rfl, rfl, rfl, trivial⟩) (hj89 _ _ ⟨ar107, ([blk g101 [vs s105, vi y101.safe_] 64] ++ Hr101), z85, hf, rfl, hm98, hy88_0, hy88_1, hy88_2, hy88_3, hz88, hA107, hst107⟩)
                · replace hf := ifFb hc hf
                  refine Run.skip ?_
                  exact Run.sub (by exact subB_spec ⟨rfl, rfl, rfl, rfl, rfl, rfl, rfl, trivial⟩) (hj89 _ _ ⟨ar2, Ha86, z85, hf, rfl, hm98, hy88_0, hy88_1, hy88_2, hy88_3, hz88, hA86, hst88⟩)
              · rintro e' w108 ⟨ar100, Ha100, z99, hf, rfl, hz108, hy108_0, hy108_1, hy108_2, hy108_3, hy108_4, hA100, hst108⟩
                replace f20 := f20.mono hz108; replace f75 := f75.mono hz108; replace f76 := f76.mono hz108; replace f77 := f77.mono hz108; replace f78 := f78.mono hz108; replace f12 := f12.mono hz108
                unfold go_law04_Model_do.j6 at hf
                refine Run.seq ?_
                refine Run.seq ?_
                refine Run.region ?_
                refine Ops.ex (Ex.move rfl) rfl rfl rfl ?_
                refine Ops.ex (Ex.not rfl) rfl rfl rfl ?_
                refine Ops.nil ?_
                refine Run.cond rfl (fun hc => ?_) (fun hc => ?_)
                · replace hf := ifFb (bn_T hc) hf
                  refine Run.seq ?_
                  refine Run.region ?_
                  refine Ops.ex (Ex.assign rfl) rfl rfl rfl ?_
                  refine Ops.nil ?_
                  obtain rfl := Option.some.inj hf
                  exact Run.retV [vi 7] rfl ⟨rfl, trivial⟩ ⟨z99, gm75, E75, c75, gm76, E76, c76, A77, c77, d77, A78, c78, d78, Ha100, Γ2, rfl, hy108_0, f75, f76, f77, f78, hA100, hGi2, (St.forget hst108 6)⟩
                · replace hf := ifTb (bn_F hc) hf
                  refine Run.skip ?_
                  refine Run.seq ?_
                  refine Run.seq ?_
                  refine Run.region ?_
                  refine Ops.ex (Ex.move rfl) rfl rfl rfl ?_
                  refine Ops.nil ?_
                  refine Run.block ?_
                  refine Run.seq ?_
                  refine Run.seq ?_
                  refine Run.region ?_
                  refine Ops.ex (Ex.eql8 (a := (p1.Op % 12)) (b := 0) rfl rfl) rfl rfl rfl ?_
                  refine Ops.ex (Ex.assign rfl) rfl rfl rfl ?_
                  refine Ops.nil ?_
                  have hm110 := Le.refl z99
                  apply Run.jn (fun e' w' => ∃ (b112 : Bool) (Ha113 : List Res) (z111 : Zp), go_law04_Model_do.j7 p0 p1 y17 y73 ar100 b112 = some r ∧ e' = [(0, .pointer (some ⟨g0, 0, none⟩)), (4, .pointer (some ⟨g15, 0, none⟩)), (7, vs y17), (8, vi p1.N.toInt), (9, .pointer A20), (109, vu8 (p1.Op % 12)), (110, vb b112)] ∧ Le z99 z111 ∧ Le z0 z111 ∧ Le z17 z111 ∧ Le z23 z111 ∧ Le z29 z111 ∧ Le z73 z111 ∧ Le z85 z111 ∧ Ar2 z111 Γ2 ar100 Ha113 ∧ Ht w0 (frz z111 :: (blk g0 [.map (some gm75), .map (some gm76), .slice A77 y73.2.wait_.length c77, .slice A78 y73.2.files_.length c78, vi y73.2.room_, vi y73.2.stop_, vb y73.2.down_, vi y73.2.calls_] 60) :: (ob gm75 (.map E75 c75)) :: (ob gm76 (.map E76 c76)) :: (orow 52 1 (.slice A77 y73.2.wait_.length c77) y73.2.wait_.length d77) :: (orow 86 1 (.slice A78 y73.2.files_.length c78) y73.2.files_.length d78) :: (blk g15 [vu8 p1.Op, vu8 p1.Name, vu8 p1.To, .slice A12 p1.Bytes.length c12, vi16 p1.N] 49) :: (Ha113 ++ X)) w')
                  · intro hj109
                    refine Run.cond rfl (fun hc => ?_) (fun hc => ?_)
                    · replace hf := ifT (dec_T hc) hf
                      refine Run.skip ?_
                      exact Run.sub (by exact subB_spec ⟨rfl, rfl, rfl, rfl, rfl, rfl, rfl, trivial⟩) (hj109 _ _ ⟨decide (p1.Op % 12 = 0), Ha100, z99, hf, rfl, hm110, hy108_0, hy108_1, hy108_2, hy108_3, hy108_4, hz108, hA100, hst108⟩)
                    · replace hf := ifF (dec_F hc) hf
                      refine Run.region ?_
                      refine Ops.ex (Ex.eql8 (a := (p1.Op % 12)) (b := 1) rfl rfl) rfl rfl rfl ?_
                      refine Ops.ex (Ex.assign rfl) rfl rfl rfl ?_
                      refine Ops.nil ?_
                      exact Run.sub (by exact subB_spec ⟨rfl, rfl, rfl, rfl, rfl, rfl, rfl, trivial⟩) (hj109 _ _ ⟨decide (p1.Op % 12 = 1), Ha100, z99, hf, rfl, hm110, hy108_0, hy108_1, hy108_2, hy108_3, hy108_4, hz108, hA100, hst108⟩)
                  · rintro e' w114 ⟨b112, Ha113, z111, hf, rfl, hz114, hy114_0, hy114_1, hy114_2, hy114_3, hy114_4, hy114_5, hA113, hst114⟩
                    replace f20 := f20.mono hz114; replace f75 := f75.mono hz114; replace f76 := f76.mono hz114; replace f77 := f77.mono hz114; replace f78 := f78.mono hz114; replace f12 := f12.mono hz114
                    unfold go_law04_Model_do.j7 at hf
                    refine Run.cond rfl (fun hc => ?_) (fun hc => ?_)
                    · replace hf := ifTb hc hf
                      refine Run.region ?_
                      refine Ops.ex (Ex.move rfl) rfl rfl rfl ?_
                      refine Ops.ex (Ex.move rfl) rfl rfl rfl ?_
                      refine Ops.sliceF [vs y17] hst114 rfl Try.underlying52 sz9 zr9 rfl rfl (by kernel_rfl) rfl (by simp [Value.oneCell']) rfl (fun A115 w115 hst115 => ?_)
                      have f115 : Cs tS z111 [vs y17] [y17] := (Cs.cons (c := [vs y17]) rfl (Cs.nil _ _))
                      refine Ops.ex (Ex.build [vs [], vi 0] rfl Try.underlying64 zr64 (pl64 Try.underlying64) (by kernel_rfl)) rfl rfl rfl ?_
                      refine Ops.boxF [vs [], vi 0] hst115 rfl rfl rfl (fun g116 w116 hst116 => ?_)
                      obtain ⟨Γ2, hG117, fP117, hA117⟩ := ArL.new (O := O2) (g := g116) (a := (⟨[], 0⟩ : law04file)) (rs := [blk g116 [vs [], vi 0] 64]) hA113 rfl
                      replace f20 := f20.up hG117; replace f75 := f75.up (tA.up hG117); replace f76 := f76.up (tA.up hG117); replace f78 := f78.up (tSl.up (tA.up hG117))
                      replace hGi2 := hGi2.trans hG117
                      replace hA117 : Ar2 z111 Γ2 (ar100 ++ [(⟨[], 0⟩ : law04file)]) ([blk g116 [vs [], vi 0] 64] ++ Ha113) := hA117
                      obtain ⟨ar117, hy117, hf⟩ := bnd hf
                      rw [Option.some.inj hy117] at hA117
                      have hst117 : Ht w0 (frz z111 :: (orow 9 1 (.slice A115 [y17].length 1) [y17].length [vs y17]) :: (blk g0 [.map (some gm75), .map (some gm76), .slice A77 y73.2.wait_.length c77, .slice A78 y73.2.files_.length c78, vi y73.2.room_, vi y73.2.stop_, vb y73.2.down_, vi y73.2.calls_] 60) :: (ob gm75 (.map E75 c75)) :: (ob gm76 (.map E76 c76)) :: (orow 52 1 (.slice A77 y73.2.wait_.length c77) y73.2.wait_.length d77) :: (orow 86 1 (.slice A78 y73.2.files_.length c78) y73.2.files_.length d78) :: (blk g15 [vu8 p1.Op, vu8 p1.Name, vu8 p1.To, .slice A12 p1.Bytes.length c12, vi16 p1.N] 49) :: (([blk g116 [vs [], vi 0] 64] ++ Ha113) ++ X)) _ := (St.up (St.up (St.up (St.up (St.up (St.up (St.up (St.up (St.up hst116 1 rfl) 8 rfl) 8 rfl) 8 rfl) 8 rfl) 8 rfl) 8 rfl) 8 rfl) 8 rfl)
                      refine Ops.sliceF [.pointer (some ⟨g116, 0, none⟩)] hst117 rfl Try.underlying86 sz62 zr62 rfl rfl (by kernel_rfl) rfl (by simp [Value.oneCell']) rfl (fun A118 w118 hst118 => ?_)
                      have f118 : Cs (tA Γ2) z111 [.pointer (some ⟨g116, 0, none⟩)] [some ar100.length] := (Cs.cons (c := [.pointer (some ⟨g116, 0, none⟩)]) ⟨_, rfl, fP117⟩ (Cs.nil _ _))
                      obtain ⟨z120, hz120, f120, hst120⟩ := St.freeze (τ := tS) (xs := [y17]) (St.up (St.up (St.up (St.up (St.up (St.up (St.up (St.up (St.up hst118 8 rfl) 8 rfl) 8 rfl) 8 rfl) 8 rfl) 8 rfl) 7 rfl) 8 rfl) 8 rfl) f115 rfl
                      replace f20 := f20.mono hz120; replace fP117 := fP117.mono hz120; replace f118 := f118.mono hz120; replace f75 := f75.mono hz120; replace f76 := f76.mono hz120; replace f77 := f77.mono hz120; replace f78 := f78.mono hz120; replace f12 := f12.mono hz120; replace hA117 := hA117.mono hz120
                      replace hy114_0 := hy114_0.trans hz120
                      replace hy114_1 := hy114_1.trans hz120
                      replace hy114_2 := hy114_2.trans hz120
                      replace hy114_3 := hy114_3.trans hz120
                      replace hy114_4 := hy114_4.trans hz120
                      replace hy114_5 := hy114_5.trans hz120
                      replace hz114 := hz114.trans hz120
                      obtain ⟨z121, hz121, f121, hst121⟩ := St.freeze (τ := (tA Γ2)) (xs := [some ar100.length]) hst120 f118 rfl
                      replace f20 := f20.mono hz121; replace f120 := f120.mono hz121; replace fP117 := fP117.mono hz121; replace f75 := f75.mono hz121; replace f76 := f76.mono hz121; replace f77 := f77.mono hz121; replace f78 := f78.mono hz121; replace f12 := f12.mono hz121; replace hA117 := hA117.mono hz121
                      replace hy114_0 := hy114_0.trans hz121
                      replace hy114_1 := hy114_1.trans hz121
                      replace hy114_2 := hy114_2.trans hz121
                      replace hy114_3 := hy114_3.trans hz121
                      replace hy114_4 := hy114_4.trans hz121
                      replace hy114_5 := hy114_5.trans hz121
                      replace hz114 := hz114.trans hz121
                      obtain ⟨y119, hy119, hf⟩ := bnd hf
                      refine Ops.call rfl rfl Try.func48 (by kernel_rfl) (by kernel_rfl) rfl (go_law04_Model_change.walk (Γ2 := Γ2) (p0 := y73.2) (p1 := [y17]) (p2 := [some ar100.length]) (hst := hst121) (f1 := f75) (f2 := f76) (f3 := f77) (f4 := f78) (f9 := f120) (f10 := f121) (hf := hy119)) ?_
                      rintro _ w119 ⟨z119, gm122, E122, c122, gm123, E123, c123, A124, c124, d124, A125, c125, d125, rfl, hz119, f122, f123, f124, f125, hst119⟩
                      refine ⟨_, rfl, ?_⟩
                      replace f20 := f20.mono hz119; replace f120 := f120.mono hz119; replace fP117 := fP117.mono hz119; replace f121 := f121.mono hz119; replace f12 := f12.mono hz119; replace hA117 := hA117.mono hz119
                      replace hy114_0 := hy114_0.trans hz119
                      replace hy114_1 := hy114_1.trans hz119
                      replace hy114_2 := hy114_2.trans hz119
                      replace hy114_3 := hy114_3.trans hz119
                      replace hy114_4 := hy114_4.trans hz119
                      replace hy114_5 := hy114_5.trans hz119
                      replace hz114 := hz114.trans hz119
                      refine Ops.nil ?_
                      refine Run.endBlk ?_
                      refine Run.seq ?_
                      refine Run.region ?_
                      refine Ops.ex (Ex.assign rfl) rfl rfl rfl ?_
                      refine Ops.nil ?_
                      obtain rfl := Option.some.inj hf
                      exact Run.retV [vi 0] rfl ⟨rfl, trivial⟩ ⟨z119, gm122, E122, c122, gm123, E123, c123, A124, c124, d124, A125, c125, d125, ([blk g116 [vs [], vi 0] 64] ++ Ha113), Γ2, rfl, hy114_0, f122, f123, f124, f125, hA117, hGi2, (St.forget hst119 6)⟩
                    · replace hf := ifFb hc hf
                      refine Run.seq ?_
                      refine Run.region ?_
                      refine Ops.ex (Ex.eql8 (a := (p1.Op % 12)) (b := 3) rfl rfl) rfl rfl rfl ?_
                      refine Ops.ex (Ex.assign rfl) rfl rfl rfl ?_
                      refine Ops.nil ?_
                      refine Run.cond rfl (fun hc => ?_) (fun hc => ?_)
                      · replace hf := ifT (dec_T hc) hf
                        have hm131 := Le.refl z111
                        obtain ⟨i130, hi130, hf⟩ := bnd hf
                        obtain ⟨y130, hy130, hf⟩ := bnd hf
                        obtain ⟨g130, hA130, hg130⟩ := PtA.some f20 hi130
                        obtain ⟨rs130, Hr130, hO130, hP130, hcl130, hba130⟩ := ArL.open O2.mono hA113 hg130 hy130
                        obtain rfl := hO130
                        have hst130 : Ht w0 (frz z111 :: (blk g0 [.map (some gm75), .map (some gm76), .slice A77 y73.2.wait_.length c77, .slice A78 y73.2.files_.length c78, vi y73.2.room_, vi y73.2.stop_, vb y73.2.down_, vi y73.2.calls_] 60) :: (ob gm75 (.map E75 c75)) :: (ob gm76 (.map E76 c76)) :: (orow 52 1 (.slice A77 y73.2.wait_.length c77) y73.2.wait_.length d77) :: (orow 86 1 (.slice A78 y73.2.files_.length c78) y73.2.files_.length d78) :: (blk g15 [vu8 p1.Op, vu8 p1.Name, vu8 p1.To, .slice A12 p1.Bytes.length c12, vi16 p1.N] 49) :: (blk g130 [vs y130.b_, vi y130.safe_] 64) :: (Hr130 ++ X)) _ := St.tailP (B := [blk g0 [.map (some gm75), .map (some gm76), .slice A77 y73.2.wait_.length c77, .slice A78 y73.2.files_.length c78, vi y73.2.room_, vi y73.2.stop_, vb y73.2.down_, vi y73.2.calls_] 60, ob gm75 (.map E75 c75), ob gm76 (.map E76 c76), orow 52 1 (.slice A77 y73.2.wait_.length c77) y73.2.wait_.length d77, orow 86 1 (.slice A78 y73.2.files_.length c78) y73.2.files_.length d78, blk g15 [vu8 p1.Op, vu8 p1.Name, vu8 p1.To, .slice A12 p1.Bytes.length c12, vi16 p1.N] 49]) hst114 hP130
                        refine Run.drawH [([], fun w => ∃ ζ Y, Le z111 ζ ∧ Ht w0 (frz ζ :: (blk g0 [.map (some gm75), .map (some gm76), .slice A77 y73.2.wait_.length c77, .slice A78 y73.2.files_.length c78, vi y73.2.room_, vi y73.2.stop_, vb y73.2.down_, vi y73.2.calls_] 60) :: (ob gm75 (.map E75 c75)) :: (ob gm76 (.map E76 c76)) :: (orow 52 1 (.slice A77 y73.2.wait_.length c77) y73.2.wait_.length d77) :: (orow 86 1 (.slice A78 y73.2.files_.length c78) y73.2.files_.length d78) :: (blk g15 [vu8 p1.Op, vu8 p1.Name, vu8 p1.To, .slice A12 p1.Bytes.length c12, vi16 p1.N] 49) :: Y) w), ([16, 19], fun w => ∃ ζ Y, Le z111 ζ ∧ Ht w0 (frz ζ :: (blk g130 [vs y130.b_, vi y130.safe_] 64) :: Y) w)] (by kernel_rfl) hst130 (fun w134 hst134 => ?_)
                        have hS0 := (⟨_, _, (Le.refl _), (St.up (St.up (St.up (St.up (St.up (St.up (St.up hst134 6 rfl) 6 rfl) 6 rfl) 6 rfl) 6 rfl) 6 rfl) 6 rfl)⟩ : (fun w => ∃ ζ Y, Le z111 ζ ∧ Ht w0 (frz ζ :: (blk g0 [.map (some gm75), .map (some gm76), .slice A77 y73.2.wait_.length c77, .slice A78 y73.2.files_.length c78, vi y73.2.room_, vi y73.2.stop_, vb y73.2.down_, vi y73.2.calls_] 60) :: (ob gm75 (.map E75 c75)) :: (ob gm76 (.map E76 c76)) :: (orow 52 1 (.slice A77 y73.2.wait_.length c77) y73.2.wait_.length d77) :: (orow 86 1 (.slice A78 y73.2.files_.length c78) y73.2.files_.length d78) :: (blk g15 [vu8 p1.Op, vu8 p1.Name, vu8 p1.To, .slice A12 p1.Bytes.length c12, vi16 p1.N] 49) :: Y) w) _)
                        have hS1 := (⟨_, _, (Le.refl _), (St.up (St.up hst134 7 rfl) 1 rfl)⟩ : (fun w => ∃ ζ Y, Le z111 ζ ∧ Ht w0 (frz ζ :: (blk g130 [vs y130.b_, vi y130.safe_] 64) :: Y) w) _)
                        refine Any.takeE 0 rfl rfl rfl rfl (by kernel_rfl) (fun _ _ _ _ _ h => h) ((Ex.move rfl).s) ?_
                        refine Any.takeE 1 rfl rfl rfl rfl (by kernel_rfl) (fun _ _ _ _ _ h => h) ((Ex.move rfl).s) ?_
                        refine Any.takeE 2 rfl rfl rfl rfl (by kernel_rfl) (fun _ _ _ _ _ h => h) ((Ex.move rfl).s) ?_
                        refine Any.takeE 3 rfl rfl rfl rfl (by kernel_rfl) (fun _ _ _ _ _ h => h) ((Ex.nilP hA130 rfl).s) ?_
                        refine Any.takeE 4 rfl rfl rfl rfl (by kernel_rfl) (fun _ _ _ _ _ h => h) ((Ex.fieldAddr rfl Try.underlying64 rfl sz9).s) ?_
                        refine Any.take 1 5 rfl rfl rfl rfl rfl (by kernel_rfl) (fun _ _ _ _ _ h => h) (ExS.load rfl Try.underlying9 rfl (fun w hS => by obtain ⟨_, _, _, hs⟩ := hS; exact hs.cell (i := 1) rfl rfl)) hS1 ?_
                        refine Any.takeE 6 rfl rfl rfl rfl (by kernel_rfl) (fun _ _ _ _ _ h => h) ((Ex.move rfl).s) ?_
                        obtain ⟨s135, hy135, hf⟩ := bnd hf
                        refine Any.takeE 7 rfl rfl rfl rfl (by kernel_rfl) (fun _ _ _ _ _ h => h) ((Ex.cutTh (lo := none) (hi := some _) hy135 rfl Try.underlying9 rfl ⟨_, rfl⟩).s) ?_
                        refine Any.takeE 8 rfl rfl rfl rfl (by kernel_rfl) (fun _ _ _ _ _ h => h) ((Ex.move rfl).s) ?_
                        refine Any.takeE 9 rfl rfl rfl rfl (by kernel_rfl) (fun _ _ _ _ _ h => h) ((Ex.nilP hA130 rfl).s) ?_
                        refine Any.takeE 10 rfl rfl rfl rfl (by kernel_rfl) (fun _ _ _ _ _ h => h) ((Ex.fieldAddr rfl Try.underlying64 rfl sz3).s) ?_
                        refine Any.take 1 11 rfl rfl rfl rfl rfl (by kernel_rfl) (fun _ _ _ _ _ h => h) (ExS.load rfl Try.underlying3 rfl (fun w hS => by obtain ⟨_, _, _, hs⟩ := hS; exact hs.cell (i := 1) rfl rfl)) hS1 ?_
                        refine Any.takeE 12 rfl rfl rfl rfl (by kernel_rfl) (fun _ _ _ _ _ h => h) ((Ex.move rfl).s) ?_
                        refine Any.takeE 13 rfl rfl rfl rfl (by kernel_rfl) (fun _ _ _ _ _ h => h) ((Ex.min2 rfl rfl rfl).s) ?_
                        refine Any.takeE 14 rfl rfl rfl rfl (by kernel_rfl) (fun _ _ _ _ _ h => h) ((Ex.nilP hA130 rfl).s) ?_
                        refine Any.takeE 15 rfl rfl rfl rfl (by kernel_rfl) (fun _ _ _ _ _ h => h) ((Ex.fieldAddr rfl Try.underlying64 rfl sz9).s) ?_
                        refine Any.one 16 (by kernel_rfl) rfl rfl (One.of_ops rfl ?_)
                        refine Ops.store 7 [vs s135] hst134 rfl rfl rfl rfl sz9 rfl (by simp [Value.oneCell']) (by simp) (fun w136 hst136 => Ops.stop ?_)
                        have hS0 := (⟨_, _, (Le.refl _), (St.up (St.up (St.up (St.up (St.up (St.up (St.up hst136 6 rfl) 6 rfl) 6 rfl) 6 rfl) 6 rfl) 6 rfl) 6 rfl)⟩ : (fun w => ∃ ζ Y, Le z111 ζ ∧ Ht w0 (frz ζ :: (blk g0 [.map (some gm75), .map (some gm76), .slice A77 y73.2.wait_.length c77, .slice A78 y73.2.files_.length c78, vi y73.2.room_, vi y73.2.stop_, vb y73.2.down_, vi y73.2.calls_] 60) :: (ob gm75 (.map E75 c75)) :: (ob gm76 (.map E76 c76)) :: (orow 52 1 (.slice A77 y73.2.wait_.length c77) y73.2.wait_.length d77) :: (orow 86 1 (.slice A78 y73.2.files_.length c78) y73.2.files_.length d78) :: (blk g15 [vu8 p1.Op, vu8 p1.Name, vu8 p1.To, .slice A12 p1.Bytes.length c12, vi16 p1.N] 49) :: Y) w) _)
                        refine ⟨⟨.inr (fun _ => hS0), .inl (by decide), trivial⟩, ?_⟩
                        refine Any.takeE 17 rfl rfl rfl rfl (by kernel_rfl) (fun _ _ _ _ _ h => h) ((Ex.nilP hA130 rfl).s) ?_
                        refine Any.takeE 18 rfl rfl rfl rfl (by kernel_rfl) (fun _ _ _ _ _ h => h) ((Ex.fieldAddr rfl Try.underlying64 rfl sz3).s) ?_
                        refine Any.one 19 (by kernel_rfl) rfl rfl (One.of_ops rfl ?_)
                        refine Ops.store 7 [vi (min y130.safe_ p1.N.toInt)] hst136 rfl rfl rfl rfl sz3 rfl (by simp [Value.oneCell']) (by simp) (fun w137 hst137 => Ops.stop ?_)
                        have hS0 := (⟨_, _, (Le.refl _), (St.up (St.up (St.up (St.up (St.up (St.up (St.up hst137 6 rfl) 6 rfl) 6 rfl) 6 rfl) 6 rfl) 6 rfl) 6 rfl)⟩ : (fun w => ∃ ζ Y, Le z111 ζ ∧ Ht w0 (frz ζ :: (blk g0 [.map (some gm75), .map (some gm76), .slice A77 y73.2.wait_.length c77, .slice A78 y73.2.files_.length c78, vi y73.2.room_, vi y73.2.stop_, vb y73.2.down_, vi y73.2.calls_] 60) :: (ob gm75 (.map E75 c75)) :: (ob gm76 (.map E76 c76)) :: (orow 52 1 (.slice A77 y73.2.wait_.length c77) y73.2.wait_.length d77) :: (orow 86 1 (.slice A78 y73.2.files_.length c78) y73.2.files_.length d78) :: (blk g15 [vu8 p1.Op, vu8 p1.Name, vu8 p1.To, .slice A12 p1.Bytes.length c12, vi16 p1.N] 49) :: Y) w) _)
                        refine ⟨⟨.inr (fun _ => hS0), .inl (by decide), trivial⟩, ?_⟩
                        refine Any.done (by kernel_rfl) ?_
                        have hA138 : Ar2 z111 Γ2 (ar100.set i130 (⟨s135, min y130.safe_ p1.N.toInt⟩ : law04file)) ([blk g130 [vs s135, vi (min y130.safe_ p1.N.toInt)] 64] ++ Hr130) := hcl130 _ hm131 _ _ rfl
                        obtain ⟨ar138, hy138, hf⟩ := bnd hf
                        rw [Option.some.inj hy138] at hA138
                        have hst138 : Ht w0 (frz z111 :: (blk g0 [.map (some gm75), .map (some gm76), .slice A77 y73.2.wait_.length c77, .slice A78 y73.2.files_.length c78, vi y73.2.room_, vi y73.2.stop_, vb y73.2.down_, vi y73.2.calls_] 60) :: (ob gm75 (.map E75 c75)) :: (ob gm76 (.map E76 c76)) :: (orow 52 1 (.slice A77 y73.2.wait_.length c77) y73.2.wait_.length d77) :: (orow 86 1 (.slice A78 y73.2.files_.length c78) y73.2.files_.length d78) :: (blk g15 [vu8 p1.Op, vu8 p1.Name, vu8 p1.To, .slice A12 p1.Bytes.length c12, vi16 p1.N] 49) :: (([blk g130 [vs s135, vi (min y130.safe_ p1.N.toInt)] 64] ++ Hr130) ++ X)) _ := hst137
                        refine Run.endBlk ?_
                        refine Run.seq ?_
                        refine Run.region ?_
                        refine Ops.ex (Ex.assign rfl) rfl rfl rfl ?_
                        refine Ops.nil ?_
                        obtain rfl := Option.some.inj hf
                        exact Run.retV [vi 0] rfl ⟨rfl, trivial⟩ ⟨z111, gm75, E75, c75, gm76, E76, c76, A77, c77, d77, A78, c78, d78, ([blk g130 [vs s135, vi (min y130.safe_ p1.N.toInt)] 64] ++ Hr130), Γ2, rfl, hy114_0, f75, f76, f77, f78, hA138, hGi2, (St.forget hst138 6)⟩
                      · replace hf := ifF (dec_F hc) hf
                        refine Run.seq ?_
                        refine Run.seq ?_
                        refine Run.region ?_
                        refine Ops.ex (Ex.eql8 (a := (p1.Op % 12)) (b := 4) rfl rfl) rfl rfl rfl ?_
                        refine Ops.ex (Ex.assign rfl) rfl rfl rfl ?_
                        refine Ops.nil ?_
                        have hm140 := Le.refl z111
                        apply Run.jn (fun e' w' => ∃ (b142 : Bool) (Ha143 : List Res) (z141 : Zp), go_law04_Model_do.j8 p0 p1 y17 y73 ar100 b142 = some r ∧ e' = [(0, .pointer (some ⟨g0, 0, none⟩)), (4, .pointer (some ⟨g15, 0, none⟩)), (7, vs y17), (9, .pointer A20), (109, vu8 (p1.Op % 12)), (140, vb b142)] ∧ Le z111 z141 ∧ Le z0 z141 ∧ Le z17 z141 ∧ Le z23 z141 ∧ Le z29 z141 ∧ Le z73 z141 ∧ Le z85 z141 ∧ Le z99 z141 ∧ Ar2 z141 Γ2 ar100 Ha143 ∧ Ht w0 (frz z141 :: (blk g0 [.map (some gm75), .map (some gm76), .slice A77 y73.2.wait_.length c77, .slice A78 y73.2.files_.length c78, vi y73.2.room_, vi y73.2.stop_, vb y73.2.down_, vi y73.2.calls_] 60) :: (ob gm75 (.map E75 c75)) :: (ob gm76 (.map E76 c76)) :: (orow 52 1 (.slice A77 y73.2.wait_.length c77) y73.2.wait_.length d77) :: (orow 86 1 (.slice A78 y73.2.files_.length c78) y73.2.files_.length d78) :: (blk g15 [vu8 p1.Op, vu8 p1.Name, vu8 p1.To, .slice A12 p1.Bytes.length c12, vi16 p1.N] 49) :: (Ha143 ++ X)) w')
                        · intro hj139
                          refine Run.cond rfl (fun hc => ?_) (fun hc => ?_)
                          · replace hf := ifT (dec_T hc) hf
                            refine Run.skip ?_
                            exact Run.sub (by exact subB_spec ⟨rfl, rfl, rfl, rfl, rfl, rfl, trivial⟩) (hj139 _ _ ⟨decide (p1.Op % 12 = 4), Ha113, z111, hf, rfl, hm140, hy114_0, hy114_1, hy114_2, hy114_3, hy114_4, hy114_5, hz114, hA113, hst114⟩)
                          · replace hf := ifF (dec_F hc) hf
                            refine Run.region ?_
                            refine Ops.ex (Ex.eql8 (a := (p1.Op % 12)) (b := 9) rfl rfl) rfl rfl rfl ?_
                            refine Ops.ex (Ex.assign rfl) rfl rfl rfl ?_
                            refine Ops.nil ?_
                            exact Run.sub (by exact subB_spec ⟨rfl, rfl, rfl, rfl, rfl, rfl, trivial⟩) (hj139 _ _ ⟨decide (p1.Op % 12 = 9), Ha113, z111, hf, rfl, hm140, hy114_0, hy114_1, hy114_2, hy114_3, hy114_4, hy114_5, hz114, hA113, hst114⟩)
                        · rintro e' w144 ⟨b142, Ha143, z141, hf, rfl, hz144, hy144_0, hy144_1, hy144_2, hy144_3, hy144_4, hy144_5, hy144_6, hA143, hst144⟩
                          replace f20 := f20.mono hz144; replace f75 := f75.mono hz144; replace f76 := f76.mono hz144; replace f77 := f77.mono hz144; replace f78 := f78.mono hz144; replace f12 := f12.mono hz144
                          unfold go_law04_Model_do.j8 at hf
                          refine Run.cond rfl (fun hc => ?_) (fun hc => ?_)
                          · replace hf := ifTb hc hf
                            refine Run.region ?_
                            refine Ops.ex (Ex.move rfl) rfl rfl rfl ?_
                            refine Ops.ex (Ex.move rfl) rfl rfl rfl ?_
                            have hm146 := Le.refl z141
                            obtain ⟨i145, hi145, hf⟩ := bnd hf
                            obtain ⟨y145, hy145, hf⟩ := bnd hf
                            obtain ⟨g145, hA145, hg145⟩ := PtA.some f20 hi145
                            obtain ⟨rs145, Hr145, hO145, hP145, hcl145, hba145⟩ := ArL.open O2.mono hA143 hg145 hy145
                            obtain rfl := hO145
                            have hst145 : Ht w0 (frz z141 :: (blk g0 [.map (some gm75), .map (some gm76), .slice A77 y73.2.wait_.length c77, .slice A78 y73.2.files_.length c78, vi y73.2.room_, vi y73.2.stop_, vb y73.2.down_, vi y73.2.calls_] 60) :: (ob gm75 (.map E75 c75)) :: (ob gm76 (.map E76 c76)) :: (orow 52 1 (.slice A77 y73.2.wait_.length c77) y73.2.wait_.length d77) :: (orow 86 1 (.slice A78 y73.2.files_.length c78) y73.2.files_.length d78) :: (blk g15 [vu8 p1.Op, vu8 p1.Name, vu8 p1.To, .slice A12 p1.Bytes.length c12, vi16 p1.N] 49) :: (blk g145 [vs y145.b_, vi y145.safe_] 64) :: (Hr145 ++ X)) _ := St.tailP (B := [blk g0 [.map (some gm75), .map (some gm76), .slice A77 y73.2.wait_.length c77, .slice A78 y73.2.files_.length c78, vi y73.2.room_, vi y73.2.stop_, vb y73.2.down_, vi y73.2.calls_] 60, ob gm75 (.map E75 c75), ob gm76 (.map E76 c76), orow 52 1 (.slice A77 y73.2.wait_.length c77) y73.2.wait_.length d77, orow 86 1 (.slice A78 y73.2.files_.length c78) y73.2.files_.length d78, blk g15 [vu8 p1.Op, vu8 p1.Name, vu8 p1.To, .slice A12 p1.Bytes.length c12, vi16 p1.N] 49]) hst144 hP145
                            refine Ops.ex (Ex.nilP hA145 rfl) rfl rfl rfl ?_
                            refine Ops.ex (Ex.fieldAddr rfl Try.underlying64 rfl sz9) rfl rfl rfl ?_
                            refine Ops.load rfl Try.underlying9 rfl (hst145.cell (i := 7) rfl rfl) rfl ?_
                            refine Ops.ex (Ex.lenT rfl rfl rfl Try.underlying9) rfl rfl rfl ?_
                            refine Ops.ex (Ex.nilP hA145 rfl) rfl rfl rfl ?_
                            refine Ops.ex (Ex.fieldAddr rfl Try.underlying64 rfl sz3) rfl rfl rfl ?_
                            refine Ops.store 7 [vi (y145.b_.length : Int)] hst145 rfl rfl rfl rfl sz3 rfl (by simp [Value.oneCell']) (by simp) (fun w149 hst149 => ?_)
                            refine Ops.nil ?_
                            have hA150 : Ar2 z141 Γ2 (ar100.set i145 (⟨y145.b_, (y145.b_.length : Int)⟩ : law04file)) ([blk g145 [vs y145.b_, vi (y145.b_.length : Int)] 64] ++ Hr145) := hcl145 _ hm146 _ _ rfl
                            obtain ⟨ar150, hy150, hf⟩ := bnd hf
                            rw [Option.some.inj hy150] at hA150
                            have hst150 : Ht w0 (frz z141 :: (blk g0 [.map (some gm75), .map (some gm76), .slice A77 y73.2.wait_.length c77, .slice A78 y73.2.files_.length c78, vi y73.2.room_, vi y73.2.stop_, vb y73.2.down_, vi y73.2.calls_] 60) :: (ob gm75 (.map E75 c75)) :: (ob gm76 (.map E76 c76)) :: (orow 52 1 (.slice A77 y73.2.wait_.length c77) y73.2.wait_.length d77) :: (orow 86 1 (.slice A78 y73.2.files_.length c78) y73.2.files_.length d78) :: (blk g15 [vu8 p1.Op, vu8 p1.Name, vu8 p1.To, .slice A12 p1.Bytes.length c12, vi16 p1.N] 49) :: (([blk g145 [vs y145.b_, vi (y145.b_.length : Int)] 64] ++ Hr145) ++ X)) _ := hst149
                            refine Run.endBlk ?_
                            refine Run.seq ?_
                            refine Run.region ?_
                            refine Ops.ex (Ex.assign rfl) rfl rfl rfl ?_
                            refine Ops.nil ?_
                            obtain rfl := Option.some.inj hf
                            exact Run.retV [vi 0] rfl ⟨rfl, trivial⟩ ⟨z141, gm75, E75, c75, gm76, E76, c76, A77, c77, d77, A78, c78, d78, ([blk g145 [vs y145.b_, vi (y145.b_.length : Int)] 64] ++ Hr145), Γ2, rfl, hy144_0, f75, f76, f77, f78, hA150, hGi2, (St.forget hst150 6)⟩
                          · replace hf := ifFb hc hf
                            refine Run.seq ?_
                            refine Run.region ?_
                            refine Ops.ex (Ex.eql8 (a := (p1.Op % 12)) (b := 5) rfl rfl) rfl rfl rfl ?_
                            refine Ops.ex (Ex.assign rfl) rfl rfl rfl ?_
                            refine Ops.nil ?_
                            refine Run.cond rfl (fun hc => ?_) (fun hc => ?_)
                            · replace hf := ifT (dec_T hc) hf
                              refine Run.region ?_
                              refine Ops.ex (Ex.move rfl) rfl rfl rfl ?_
                              refine Ops.ex (Ex.move rfl) rfl rfl rfl ?_
                              refine Ops.ex (Ex.move rfl) rfl rfl rfl ?_
                              refine Ops.ex (Ex.move rfl) rfl rfl rfl ?_
                              refine Ops.ex (Ex.nilCheck rfl) rfl rfl rfl ?_
                              refine Ops.ex (Ex.fieldAddr rfl Try.underlying60 rfl sz56) rfl rfl rfl ?_
                              refine Ops.load rfl Try.underlying56 rfl (hst144.cell (i := 1) rfl rfl) rfl ?_
                              obtain ⟨y151, hy151, hf⟩ := bnd hf
                              refine Ops.call rfl rfl Try.func46 (by kernel_rfl) (by kernel_rfl) rfl (go_law04_copied.walk (Γ2 := Γ2) (p0 := y73.2.now_) (hst := (St.up (St.up (St.up (St.up (St.up (St.up (St.up hst144 6 rfl) 6 rfl) 6 rfl) 6 rfl) 5 rfl) 6 rfl) 6 rfl)) (f1 := f75) (hf := hy151)) ?_
                              rintro _ w151 ⟨z151, gm152, E152, c152, E153, c153, rfl, hz151, f152, f153, hst151⟩
                              refine ⟨_, rfl, ?_⟩
                              replace f20 := f20.mono hz151; replace f76 := f76.mono hz151; replace f77 := f77.mono hz151; replace f78 := f78.mono hz151; replace f12 := f12.mono hz151; replace hA143 := hA143.mono hz151
                              replace hy144_0 := hy144_0.trans hz151
                              replace hy144_1 := hy144_1.trans hz151
                              replace hy144_2 := hy144_2.trans hz151
                              replace hy144_3 := hy144_3.trans hz151
                              replace hy144_4 := hy144_4.trans hz151
                              replace hy144_5 := hy144_5.trans hz151
                              replace hy144_6 := hy144_6.trans hz151
                              replace hz144 := hz144.trans hz151
                              refine Ops.ex (Ex.nilCheck rfl) rfl rfl rfl ?_
                              refine Ops.ex (Ex.fieldAddr rfl Try.underlying60 rfl sz56) rfl rfl rfl ?_
                              refine Ops.store 3 [.map (some gm152)] hst151 rfl rfl rfl rfl sz56 rfl (by simp [Value.oneCell']) (by simp) (fun w154 hst154 => ?_)
                              refine Ops.ex (Ex.nilCheck rfl) rfl rfl rfl ?_
                              refine Ops.ex (Ex.fieldAddr rfl Try.underlying60 rfl sz57) rfl rfl rfl ?_
                              refine Ops.store 3 [.slice none 0 0] hst154 rfl rfl rfl rfl sz57 rfl (by simp [Value.oneCell']) (by simp) (fun w155 hst155 => ?_)
                              refine Ops.ex (Ex.nilCheck rfl) rfl rfl rfl ?_
                              refine Ops.ex (Ex.fieldAddr rfl Try.underlying60 rfl sz58) rfl rfl rfl ?_
                              refine Ops.store 3 [.slice none 0 0] hst155 rfl rfl rfl rfl sz58 rfl (by simp [Value.oneCell']) (by simp) (fun w156 hst156 => ?_)
                              refine Ops.nil ?_
                              refine Run.endBlk ?_
                              refine Run.seq ?_
                              refine Run.region ?_
                              refine Ops.ex (Ex.assign rfl) rfl rfl rfl ?_
                              refine Ops.nil ?_
                              have hst157 := St.row0 hst156 52 1
                              have hst159 := St.row0 hst157 86 1
                              obtain rfl := Option.some.inj hf
                              exact Run.retV [vi 0] rfl ⟨rfl, trivial⟩ ⟨z151, gm75, E153, c153, gm152, E152, c152, none, 0, [], none, 0, [], Ha143, Γ2, rfl, hy144_0, f153, f152, (Cs.nil _ _), (Cs.nil _ _), hA143, hGi2, (St.up (St.up (St.up (St.up (St.up (St.up (St.forget (St.forget (St.forget (St.forget hst159 9) 8) 7) 6) 1 rfl) 2 rfl) 4 rfl) 4 rfl) 5 rfl) 5 rfl)⟩
                            · replace hf := ifF (dec_F hc) hf
                              refine Run.seq ?_
                              refine Run.region ?_
                              refine Ops.ex (Ex.eql8 (a := (p1.Op % 12)) (b := 6) rfl rfl) rfl rfl rfl ?_
                              refine Ops.ex (Ex.assign rfl) rfl rfl rfl ?_
                              refine Ops.nil ?_
                              refine Run.cond rfl (fun hc => ?_) (fun hc => ?_)
                              · replace hf := ifT (dec_T hc) hf
                                refine Run.region ?_
                                refine Ops.ex (Ex.move rfl) rfl rfl rfl ?_
                                refine Ops.ex (Ex.move rfl) rfl rfl rfl ?_
                                refine Ops.ex (Ex.fieldAddr rfl Try.underlying49 rfl sz5) rfl rfl rfl ?_
                                refine Ops.load rfl Try.underlying5 rfl (hst144.cell (i := 6) rfl rfl) rfl ?_
                                obtain ⟨y161, hy161, hf⟩ := bnd hf
                                refine Ops.call rfl rfl Try.func41 (by kernel_rfl) (by kernel_rfl) rfl (go_law04_name.walk (p0 := p1.To) (hst := hst144) (hf := hy161)) ?_
                                rintro _ w161 ⟨z161, rfl, hz161, hst161⟩
                                refine ⟨_, rfl, ?_⟩
                                replace f20 := f20.mono hz161; replace f75 := f75.mono hz161; replace f76 := f76.mono hz161; replace f77 := f77.mono hz161; replace f78 := f78.mono hz161; replace f12 := f12.mono hz161; replace hA143 := hA143.mono hz161
                                replace hy144_0 := hy144_0.trans hz161
                                replace hy144_1 := hy144_1.trans hz161
                                replace hy144_2 := hy144_2.trans hz161
                                replace hy144_3 := hy144_3.trans hz161
                                replace hy144_4 := hy144_4.trans hz161
                                replace hy144_5 := hy144_5.trans hz161
                                replace hy144_6 := hy144_6.trans hz161
                                replace hz144 := hz144.trans hz161
                                refine Ops.sliceF [vs y17, vs y161] hst161 rfl Try.underlying52 sz9 zr9 rfl rfl (by kernel_rfl) rfl (by simp [Value.oneCell']) rfl (fun A163 w163 hst163 => ?_)
                                have f163 : Cs tS z161 [vs y17, vs y161] [y17, y161] := (Cs.cons (c := [vs y17]) rfl (Cs.cons (c := [vs y161]) rfl (Cs.nil _ _)))
                                refine Ops.ex (Ex.move rfl) rfl rfl rfl ?_
                                refine Ops.sliceF [.pointer none, .pointer A20] hst163 rfl Try.underlying86 sz62 zr62 rfl rfl (by kernel_rfl) rfl (by simp [Value.oneCell']) rfl (fun A164 w164 hst164 => ?_)
                                have f164 : Cs (tA Γ2) z161 [.pointer none, .pointer A20] [none, ((mget p0.now_ y17).getD none)] := (Cs.cons (c := [.pointer none]) ⟨_, rfl, (PtA.nil _)⟩ (Cs.cons (c := [.pointer A20]) ⟨_, rfl, f20⟩ (Cs.nil _ _)))
                                obtain ⟨z166, hz166, f166, hst166⟩ := St.freeze (τ := tS) (xs := [y17, y161]) (St.up (St.up (St.up (St.up (St.up (St.up (St.up (St.up (St.up hst164 8 rfl) 8 rfl) 8 rfl) 8 rfl) 8 rfl) 8 rfl) 7 rfl) 8 rfl) 8 rfl) f163 rfl
                                replace f20 := f20.mono hz166; replace f164 := f164.mono hz166; replace f75 := f75.mono hz166; replace f76 := f76.mono hz166; replace f77 := f77.mono hz166; replace f78 := f78.mono hz166; replace f12 := f12.mono hz166; replace hA143 := hA143.mono hz166
                                replace hy144_0 := hy144_0.trans hz166
                                replace hy144_1 := hy144_1.trans hz166
                                replace hy144_2 := hy144_2.trans hz166
                                replace hy144_3 := hy144_3.trans hz166
                                replace hy144_4 := hy144_4.trans hz166
                                replace hy144_5 := hy144_5.trans hz166
                                replace hy144_6 := hy144_6.trans hz166
                                replace hz144 := hz144.trans hz166
                                obtain ⟨z167, hz167, f167, hst167⟩ := St.freeze (τ := (tA Γ2)) (xs := [none, ((mget p0.now_ y17).getD none)]) hst166 f164 rfl
                                replace f20 := f20.mono hz167; replace f166 := f166.mono hz167; replace f75 := f75.mono hz167; replace f76 := f76.mono hz167; replace f77 := f77.mono hz167; replace f78 := f78.mono hz167; replace f12 := f12.mono hz167; replace hA143 := hA143.mono hz167
                                replace hy144_0 := hy144_0.trans hz167
                                replace hy144_1 := hy144_1.trans hz167
                                replace hy144_2 := hy144_2.trans hz167
                                replace hy144_3 := hy144_3.trans hz167
                                replace hy144_4 := hy144_4.trans hz167
                                replace hy144_5 := hy144_5.trans hz167
                                replace hy144_6 := hy144_6.trans hz167
                                replace hz144 := hz144.trans hz167
                                obtain ⟨y165, hy165, hf⟩ := bnd hf
                                refine Ops.call rfl rfl Try.func48 (by kernel_rfl) (by kernel_rfl) rfl (go_law04_Model_change.walk (Γ2 := Γ2) (p0 := y73.2) (p1 := [y17, y161]) (p2 := [none, ((mget p0.now_ y17).getD none)]) (hst := hst167) (f1 := f75) (f2 := f76) (f3 := f77) (f4 := f78) (f9 := f166) (f10 := f167) (hf := hy165)) ?_
                                rintro _ w165 ⟨z165, gm168, E168, c168, gm169, E169, c169, A170, c170, d170, A171, c171, d171, rfl, hz165, f168, f169, f170, f171, hst165⟩
                                refine ⟨_, rfl, ?_⟩
                                replace f20 := f20.mono hz165; replace f166 := f166.mono hz165; replace f167 := f167.mono hz165; replace f12 := f12.mono hz165; replace hA143 := hA143.mono hz165
                                replace hy144_0 := hy144_0.trans hz165
                                replace hy144_1 := hy144_1.trans hz165
                                replace hy144_2 := hy144_2.trans hz165
                                replace hy144_3 := hy144_3.trans hz165
                                replace hy144_4 := hy144_4.trans hz165
                                replace hy144_5 := hy144_5.trans hz165
                                replace hy144_6 := hy144_6.trans hz165
                                replace hz144 := hz144.trans hz165
                                refine Ops.nil ?_
                                refine Run.endBlk ?_
                                refine Run.seq ?_
                                refine Run.region ?_
                                refine Ops.ex (Ex.assign rfl) rfl rfl rfl ?_
                                refine Ops.nil ?_
                                obtain rfl := Option.some.inj hf
                                exact Run.retV [vi 0] rfl ⟨rfl, trivial⟩ ⟨z165, gm168, E168, c168, gm169, E169, c169, A170, c170, d170, A171, c171, d171, Ha143, Γ2, rfl, hy144_0, f168, f169, f170, f171, hA143, hGi2, (St.forget hst165 6)⟩
                              · replace hf := ifF (dec_F hc) hf
                                refine Run.seq ?_
                                refine Run.seq ?_
                                refine Run.region ?_
                                refine Ops.ex (Ex.eql8 (a := (p1.Op % 12)) (b := 10) rfl rfl) rfl rfl rfl ?_
                                refine Ops.ex (Ex.assign rfl) rfl rfl rfl ?_
                                refine Ops.nil ?_
                                have hm177 := Le.refl z141
                                apply Run.jn (fun e' w' => ∃ (b179 : Bool) (Ha180 : List Res) (z178 : Zp), go_law04_Model_do.j9 y17 y73 ar100 b179 = some r ∧ e' = [(0, .pointer (some ⟨g0, 0, none⟩)), (7, vs y17), (178, vb b179)] ∧ Le z141 z178 ∧ Le z0 z178 ∧ Le z17 z178 ∧ Le z23 z178 ∧ Le z29 z178 ∧ Le z73 z178 ∧ Le z85 z178 ∧ Le z99 z178 ∧ Le z111 z178 ∧ Ar2 z178 Γ2 ar100 Ha180 ∧ Ht w0 (frz z178 :: (blk g0 [.map (some gm75), .map (some gm76), .slice A77 y73.2.wait_.length c77, .slice A78 y73.2.files_.length c78, vi y73.2.room_, vi y73.2.stop_, vb y73.2.down_, vi y73.2.calls_] 60) :: (ob gm75 (.map E75 c75)) :: (ob gm76 (.map E76 c76)) :: (orow 52 1 (.slice A77 y73.2.wait_.length c77) y73.2.wait_.length d77) :: (orow 86 1 (.slice A78 y73.2.files_.length c78) y73.2.files_.length d78) :: (Ha180 ++ X)) w')
                                · intro hj176
                                  refine Run.cond rfl (fun hc => ?_) (fun hc => ?_)
                                  · replace hf := ifT (dec_T hc) hf
                                    refine Run.skip ?_
                                    exact Run.sub (by exact subB_spec ⟨rfl, rfl, rfl, trivial⟩) (hj176 _ _ ⟨decide (p1.Op % 12 = 10), Ha143, z141, hf, rfl, hm177, hy144_0, hy144_1, hy144_2, hy144_3, hy144_4, hy144_5, hy144_6, hz144, hA143, (St.forget hst144 6)⟩)
                                  · replace hf := ifF (dec_F hc) hf
                                    refine Run.region ?_
                                    refine Ops.ex (Ex.eql8 (a := (p1.Op % 12)) (b := 11) rfl rfl) rfl rfl rfl ?_
                                    refine Ops.ex (Ex.assign rfl) rfl rfl rfl ?_
                                    refine Ops.nil ?_
                                    exact Run.sub (by exact subB_spec ⟨rfl, rfl, rfl, trivial⟩) (hj176 _ _ ⟨decide (p1.Op % 12 = 11), Ha143, z141, hf, rfl, hm177, hy144_0, hy144_1, hy144_2, hy144_3, hy144_4, hy144_5, hy144_6, hz144, hA143, (St.forget hst144 6)⟩)
                                · rintro e' w181 ⟨b179, Ha180, z178, hf, rfl, hz181, hy181_0, hy181_1, hy181_2, hy181_3, hy181_4, hy181_5, hy181_6, hy181_7, hA180, hst181⟩
                                  replace f75 := f75.mono hz181; replace f76 := f76.mono hz181; replace f77 := f77.mono hz181; replace f78 := f78.mono hz181
                                  unfold go_law04_Model_do.j9 at hf
                                  refine Run.cond rfl (fun hc => ?_) (fun hc => ?_)
                                  · replace hf := ifTb hc hf
                                    refine Run.region ?_
                                    refine Ops.ex (Ex.move rfl) rfl rfl rfl ?_
                                    refine Ops.ex (Ex.move rfl) rfl rfl rfl ?_
                                    refine Ops.sliceF [vs y17] hst181 rfl Try.underlying52 sz9 zr9 rfl rfl (by kernel_rfl) rfl (by simp [Value.oneCell']) rfl (fun A182 w182 hst182 => ?_)
                                    have f182 : Cs tS z178 [vs y17] [y17] := (Cs.cons (c := [vs y17]) rfl (Cs.nil _ _))
                                    refine Ops.sliceF [.pointer none] hst182 rfl Try.underlying86 sz62 zr62 rfl rfl (by kernel_rfl) rfl (by simp [Value.oneCell']) rfl (fun A183 w183 hst183 => ?_)
                                    have f183 : Cs (tA Γ2) z178 [.pointer none] [none] := (Cs.cons (c := [.pointer none]) ⟨_, rfl, (PtA.nil _)⟩ (Cs.nil _ _))
                                    obtain ⟨z185, hz185, f185, hst185⟩ := St.freeze (τ := tS) (xs := [y17]) (St.up (St.up (St.up (St.up (St.up (St.up (St.up (St.up hst183 7 rfl) 7 rfl) 7 rfl) 7 rfl) 7 rfl) 6 rfl) 7 rfl) 7 rfl) f182 rfl
                                    replace f183 := f183.mono hz185; replace f75 := f75.mono hz185; replace f76 := f76.mono hz185; replace f77 := f77.mono hz185; replace f78 := f78.mono hz185; replace hA180 := hA180.mono hz185
                                    replace hy181_0 := hy181_0.trans hz185
                                    replace hy181_1 := hy181_1.trans hz185
                                    replace hy181_2 := hy181_2.trans hz185
                                    replace hy181_3 := hy181_3.trans hz185
                                    replace hy181_4 := hy181_4.trans hz185
                                    replace hy181_5 := hy181_5.trans hz185
                                    replace hy181_6 := hy181_6.trans hz185
                                    replace hy181_7 := hy181_7.trans hz185
                                    replace hz181 := hz181.trans hz185
                                    obtain ⟨z186, hz186, f186, hst186⟩ := St.freeze (τ := (tA Γ2)) (xs := [none]) hst185 f183 rfl
                                    replace f185 := f185.mono hz186; replace f75 := f75.mono hz186; replace f76 := f76.mono hz186; replace f77 := f77.mono hz186; replace f78 := f78.mono hz186; replace hA180 := hA180.mono hz186
                                    replace hy181_0 := hy181_0.trans hz186
                                    replace hy181_1 := hy181_1.trans hz186
                                    replace hy181_2 := hy181_2.trans hz186
                                    replace hy181_3 := hy181_3.trans hz186
                                    replace hy181_4 := hy181_4.trans hz186
                                    replace hy181_5 := hy181_5.trans hz186
                                    replace hy181_6 := hy181_6.trans hz186
                                    replace hy181_7 := hy181_7.trans hz186
                                    replace hz181 := hz181.trans hz186
                                    obtain ⟨y184, hy184, hf⟩ := bnd hf
                                    refine Ops.call rfl rfl Try.func48 (by kernel_rfl) (by kernel_rfl) rfl (go_law04_Model_change.walk (Γ2 := Γ2) (p0 := y73.2) (p1 := [y17]) (p2 := [none]) (hst := hst186) (f1 := f75) (f2 := f76) (f3 := f77) (f4 := f78) (f9 := f185) (f10 := f186) (hf := hy184)) ?_
                                    rintro _ w184 ⟨z184, gm187, E187, c187, gm188, E188, c188, A189, c189, d189, A190, c190, d190, rfl, hz184, f187, f188, f189, f190, hst184⟩
                                    refine ⟨_, rfl, ?_⟩
                                    replace f185 := f185.mono hz184; replace f186 := f186.mono hz184; replace hA180 := hA180.mono hz184
                                    replace hy181_0 := hy181_0.trans hz184
                                    replace hy181_1 := hy181_1.trans hz184
                                    replace hy181_2 := hy181_2.trans hz184
                                    replace hy181_3 := hy181_3.trans hz184
                                    replace hy181_4 := hy181_4.trans hz184
                                    replace hy181_5 := hy181_5.trans hz184
                                    replace hy181_6 := hy181_6.trans hz184
                                    replace hy181_7 := hy181_7.trans hz184
                                    replace hz181 := hz181.trans hz184
                                    refine Ops.nil ?_
                                    refine Run.endBlk ?_
                                    refine Run.seq ?_
                                    refine Run.region ?_
                                    refine Ops.ex (Ex.assign rfl) rfl rfl rfl ?_
                                    refine Ops.nil ?_
                                    obtain rfl := Option.some.inj hf
                                    exact Run.retV [vi 0] rfl ⟨rfl, trivial⟩ ⟨z184, gm187, E187, c187, gm188, E188, c188, A189, c189, d189, A190, c190, d190, Ha180, Γ2, rfl, hy181_0, f187, f188, f189, f190, hA180, hGi2, hst184⟩
                                  · replace hf := ifFb hc hf
                                    refine Run.skip ?_
                                    refine Run.endBlk ?_
                                    refine Run.seq ?_
                                    refine Run.region ?_
                                    refine Ops.ex (Ex.assign rfl) rfl rfl rfl ?_
                                    refine Ops.nil ?_
                                    obtain rfl := Option.some.inj hf
                                    exact Run.retV [vi 0] rfl ⟨rfl, trivial⟩ ⟨z178, gm75, E75, c75, gm76, E76, c76, A77, c77, d77, A78, c78, d78, Ha180, Γ2, rfl, hy181_0, f75, f76, f77, f78, hA180, hGi2, hst181⟩
def go_law04_Model_restart.b2 (p0 : law04Model) (x555 : Int) (i562 : Nat) (a562 : Str) : (Mp (Option Nat)) → (Mp (Option Nat) → Option (law04Model × List law04file)) → Option (law04Model × List law04file) :=
  fun mp600 nxb562 => (atI p0.files_ x555).bind fun y606 => (atI y606 (i562 : Int)).bind fun y609 => (go_law04_set mp600 a562 y609).bind fun y612 => nxb562 y612
def go_law04_Model_restart.b3 (p2 : Int) : (Str × Option Nat) → (List Nat × List law04file) → (List Nat × List law04file → Option (law04Model × List law04file)) → Option (law04Model × List law04file) :=
  fun a616 (mp687, ar688) nxb616 => (a616.2).bind fun i704 => if i704 ∈ mp687 then (nxb616 (mp687, ar688)) else ((a616.2).bind fun i705 => (ar688[i705]?).bind fun y705 => (cutI y705.b_ 0 (min (y705.b_.length : Int) (wr (y705.safe_ + (max 0 (min p2 (y705.b_.length : Int))))))).bind fun s710 => (some (ar688.set i705 (⟨s710, y705.safe_⟩ : law04file))).bind fun ar712 => (a616.2).bind fun i713 => (ar712[i713]?).bind fun y713 => (some (ar712.set i713 (⟨y713.b_, (y713.b_.length : Int)⟩ : law04file))).bind fun ar717 => (a616.2).bind fun i718 => nxb616 ((i718 :: mp687), ar717))
def go_law04_Model_restart.b4 (p2 : Int) : (Str × Option Nat) → (List Nat × List law04file) → (List Nat × List law04file → Option (law04Model × List law04file)) → Option (law04Model × List law04file) :=
  fun a721 (mp792, ar793) nxb721 => (a721.2).bind fun i809 => if i809 ∈ mp792 then (nxb721 (mp792, ar793)) else ((a721.2).bind fun i810 => (ar793[i810]?).bind fun y810 => (cutI y810.b_ 0 (min (y810.b_.length : Int) (wr (y810.safe_ + (max 0 (min p2 (y810.b_.length : Int))))))).bind fun s815 => (some (ar793.set i810 (⟨s815, y810.safe_⟩ : law04file))).bind fun ar817 => (a721.2).bind fun i818 => (ar817[i818]?).bind fun y818 => (some (ar817.set i818 (⟨y818.b_, (y818.b_.length : Int)⟩ : law04file))).bind fun ar822 => (a721.2).bind fun i823 => nxb721 ((i823 :: mp792), ar822))
def go_law04_Model_restart.b1 (p0 : law04Model) (p1 : Int) (p2 : Int) (ar2 : List law04file) : (Int × Mp (Option Nat)) → (Int × Mp (Option Nat) → Option (law04Model × List law04file)) → Option (law04Model × List law04file) :=
  fun (x555, mp557) nxb11 => if x555 < (p0.wait_.length : Int) then (if x555 < p1 then ((atI p0.wait_ x555).bind fun y559 => forL (go_law04_Model_restart.b2 p0 x555) (fun mp600 => nxb11 (wr (x555 + 1), mp600)) 0 y559 mp557) else (forN (go_law04_Model_restart.b3 p2) (fun (mp687, ar688) => (go_law04_copied mp557).bind fun y691 => some ((⟨y691.1, y691.2, [], [], p0.room_, (-1), false, p0.calls_⟩ : law04Model), ar688)) mp557.length mp557 ([], ar2))) else (forN (go_law04_Model_restart.b4 p2) (fun (mp792, ar793) => (go_law04_copied mp557).bind fun y796 => some ((⟨y796.1, y796.2, [], [], p0.room_, (-1), false, p0.calls_⟩ : law04Model), ar793)) mp557.length mp557 ([], ar2))
def go_law04_Model_restart (p0 : law04Model) (p1 : Int) (p2 : Int) (ar2 : List law04file) : Option (law04Model × List law04file) :=
  loopF (go_law04_Model_restart.b1 p0 p1 p2 ar2) fuel (0, p0.kept_)
set_option maxRecDepth 100000 in
set_option maxHeartbeats 4000000 in
theorem go_law04_Model_restart.walk {w0 w : World} {Γ2 : List Nat} {X : List Res} {z0 : Zp} {p0 : law04Model} {g0 : Nat} {gm1 : Nat} {E1 : Array MapEntry} {c1 : Nat} {gm2 : Nat} {E2 : Array MapEntry} {c2 : Nat} {A3 : Option Addr} {c3 : Nat} {d3 : List Value} {A4 : Option Addr} {c4 : Nat} {d4 : List Value} {p1 : Int} {p2 : Int} {ar2 : List law04file} {Ha2 : List Res} {r : law04Model × List law04file} (hst : Ht w0 (frz z0 :: (blk g0 [.map (some gm1), .map (some gm2), .slice A3 p0.wait_.length c3, .slice A4 p0.files_.length c4, vi p0.room_, vi p0.stop_, vb p0.down_, vi p0.calls_] 60) :: (ob gm1 (.map E1 c1)) :: (ob gm2 (.map E2 c2)) :: (orow 52 1 (.slice A3 p0.wait_.length c3) p0.wait_.length d3) :: (orow 86 1 (.slice A4 p0.files_.length c4) p0.files_.length d4) :: (Ha2 ++ X)) w) (f1 : Mr (tA Γ2) pk1 z0 E1 c1 p0.now_) (f2 : Mr (tA Γ2) pk1 z0 E2 c2 p0.kept_) (f3 : Cs (tSl tS) z0 d3 p0.wait_) (f4 : Cs (tSl (tA Γ2)) z0 d4 p0.files_) (hA2 : Ar2 z0 Γ2 ar2 Ha2) (hf : go_law04_Model_restart p0 p1 p2 ar2 = some r) :
    Calls Try.prog 32 #[.pointer (some ⟨g0, 0, none⟩), vi p1, vi p2] w fun e w' => ∃ (z' : Zp) (gm9001 : Nat) (E9001 : Array MapEntry) (c9001 : Nat) (gm9002 : Nat) (E9002 : Array MapEntry) (c9002 : Nat) (A9003 : Option Addr) (c9003 : Nat) (d9003 : List Value) (A9004 : Option Addr) (c9004 : Nat) (d9004 : List Value) (Ha9009 : List Res), e = .returned (.tuple #[]) ∧ Le z0 z' ∧ Mr (tA Γ2) pk1 z' E9001 c9001 r.1.now_ ∧ Mr (tA Γ2) pk1 z' E9002 c9002 r.1.kept_ ∧ Cs (tSl tS) z' d9003 r.1.wait_ ∧ Cs (tSl (tA Γ2)) z' d9004 r.1.files_ ∧ Ar2 z' Γ2 r.2 Ha9009 ∧ Ht w0 (frz z' :: (blk g0 [.map (some gm9001), .map (some gm9002), .slice A9003 r.1.wait_.length c9003, .slice A9004 r.1.files_.length c9004, vi r.1.room_, vi r.1.stop_, vb r.1.down_, vi r.1.calls_] 60) :: (ob gm9001 (.map E9001 c9001)) :: (ob gm9002 (.map E9002 c9002)) :: (orow 52 1 (.slice A9003 r.1.wait_.length c9003) r.1.wait_.length d9003) :: (orow 86 1 (.slice A9004 r.1.files_.length c9004) r.1.files_.length d9004) :: (Ha9009 ++ X)) w' := by
  refine calls_np Try.func32 rfl rfl ?_
  have hle0 := Le.refl z0
  unfold go_law04_Model_restart at hf
  have hGi2 := List.prefix_rfl (l := Γ2)
  refine Run.seq ?_
  refine Run.seq ?_
  refine Run.region ?_
  refine Ops.ex (Ex.assign rfl) rfl rfl rfl ?_
  refine Ops.nil ?_
  refine Run.block ?_
  refine Run.sub (e' := [(0, .pointer (some ⟨g0, 0, none⟩)), (1, vi p1), (2, vi p2), (6, vi 0)]) (subB_spec ⟨rfl, rfl, rfl, rfl, trivial⟩) ?_
  refine Run.loop (fun mb11 => (fun e' w' => ∃ (x555 : Int) (mp557 : Mp (Option Nat)) (Ha556 : List Res) (g557 : Nat) (E557 : Array MapEntry) (c557 : Nat) (z554 : Zp), loopF (go_law04_Model_restart.b1 p0 p1 p2 ar2) mb11 (x555, mp557) = some r ∧ e' = [(0, .pointer (some ⟨g0, 0, none⟩)), (1, vi p1), (2, vi p2), (6, vi x555)] ∧ Le z0 z554 ∧ Ar2 z554 Γ2 ar2 Ha556 ∧ Mr (tA Γ2) pk1 z554 E557 c557 mp557 ∧ Ht w0 (frz z554 :: (ob g557 (.map E557 c557)) :: (blk g0 [.map (some gm1), .map (some g557), .slice A3 p0.wait_.length c3, .slice A4 p0.files_.length c4, vi p0.room_, vi p0.stop_, vb p0.down_, vi p0.calls_] 60) :: (ob gm1 (.map E1 c1)) :: (orow 52 1 (.slice A3 p0.wait_.length c3) p0.wait_.length d3) :: (orow 86 1 (.slice A4 p0.files_.length c4) p0.files_.length d4) :: (Ha556 ++ X)) w')) fuel ⟨0, p0.kept_, Ha2, gm2, E2, c2, z0, hf, rfl, hle0, hA2, f2, (St.up (St.up (St.up (St.up (St.up (St.up hst 5 rfl) 5 rfl) 4 rfl) 4 rfl) 5 rfl) 5 rfl)⟩ ?_
  rintro mb11 e' w558 ⟨x555, mp557, Ha556, g557, E557, c557, z554, hf, rfl, hz558, hA556, f557, hst558⟩
  replace f1 := f1.mono hz558; replace f3 := f3.mono hz558; replace f4 := f4.mono hz558
  obtain ⟨mb11', nxb11, rfl, hnxb11, hf⟩ := loopF_in hf
  unfold go_law04_Model_restart.b1 at hf
  try dsimp only at hf
  refine Run.seq ?_
  refine Run.seq ?_
  refine Run.region ?_
  refine Ops.ex (Ex.move rfl) rfl rfl rfl ?_
  refine Ops.ex (Ex.move rfl) rfl rfl rfl ?_
  refine Ops.ex (Ex.nilCheck rfl) rfl rfl rfl ?_
  refine Ops.ex (Ex.fieldAddr rfl Try.underlying60 rfl sz57) rfl rfl rfl ?_
  refine Ops.load rfl Try.underlying57 rfl (hst558.cell (i := 2) rfl rfl) rfl ?_
  refine Ops.ex (Ex.len' rfl rfl rfl Try.underlying57) rfl rfl rfl ?_
  refine Ops.ex (Ex.lss rfl rfl) rfl rfl rfl ?_
  refine Ops.ex (Ex.move rfl) rfl rfl rfl ?_
  refine Ops.case 19 rfl (fun hc => ?_) (fun hc => ?_)
  · replace hf := ifT (dec_T hc) hf
    refine Ops.on rfl ?_
    refine Ops.ex (Ex.move rfl) rfl rfl rfl ?_
    refine Ops.on rfl ?_
    refine Ops.ex (Ex.move rfl) rfl rfl rfl ?_
    refine Ops.on rfl ?_
    refine Ops.ex (Ex.lss rfl rfl) rfl rfl rfl ?_
    refine Ops.ex (Ex.pickT rfl rfl) rfl rfl rfl ?_
    refine Ops.nil ?_
    refine Run.cond rfl (fun hc => ?_) (fun hc => ?_)
    · replace hf := ifT (dec_T hc) hf
      refine Run.skip ?_
      refine Run.seq ?_
      refine Run.block ?_
      refine Run.seq ?_
      refine Run.region ?_
      refine Ops.ex (Ex.move rfl) rfl rfl rfl ?_
      refine Ops.ex (Ex.nilCheck rfl) rfl rfl rfl ?_
      refine Ops.ex (Ex.fieldAddr rfl Try.underlying60 rfl sz57) rfl rfl rfl ?_
      refine Ops.load rfl Try.underlying57 rfl (hst558.cell (i := 2) rfl rfl) rfl ?_
      refine Ops.ex (Ex.move rfl) rfl rfl rfl ?_
      obtain ⟨y559, hy559, hf⟩ := bnd hf
      obtain ⟨g561, p561, o561, cs561, hA561, ho561, hr561, f561⟩ := own_elem f3 rfl (hst558.get (i := 4) rfl) hy559
      obtain ⟨A560, c560, rfl, f560⟩ := hr561
      refine Ops.ex (Ex.ixA hA561 ho561 hy559 rfl rfl rfl Try.underlying57 sz52) rfl rfl rfl ?_
      refine Ops.load rfl Try.underlying52 rfl ((f561 _ (hst558.get (i := 4) rfl)) 0 _ rfl) rfl ?_
      refine Ops.ex (Ex.len' rfl rfl rfl Try.underlying52) rfl rfl rfl ?_
      refine Ops.ex (Ex.move rfl) rfl rfl rfl ?_
      refine Ops.nil ?_
      refine Run.block ?_
      have hc562 := f560.cap
      have hm563 := Le.refl z554
      refine Run.sub (e' := [(0, .pointer (some ⟨g0, 0, none⟩)), (1, vi p1), (2, vi p2), (6, vi x555), (32, .slice A560 y559.length c560), (33, vi (y559.length : Int)), (34, vi ((0 : Nat) : Int))]) (subB_spec ⟨rfl, rfl, rfl, rfl, rfl, rfl, rfl, trivial⟩) ?_
      refine Run.loop (fun mb562 => (fun e' w' => ∃ (i562 : Nat) (mp600 : Mp (Option Nat)) (Ha599 : List Res) (g600 : Nat) (E600 : Array MapEntry) (c600 : Nat) (z598 : Zp), mb562 = y559.length - i562 ∧ i562 ≤ y559.length ∧ forL (go_law04_Model_restart.b2 p0 x555) (fun mp600 => nxb11 (wr (x555 + 1), mp600)) i562 (y559.drop i562) mp600 = some r ∧ e' = [(0, .pointer (some ⟨g0, 0, none⟩)), (1, vi p1), (2, vi p2), (6, vi x555), (32, .slice A560 y559.length c560), (33, vi (y559.length : Int)), (34, vi (i562 : Int))] ∧ Le z554 z598 ∧ Le z0 z598 ∧ Ar2 z598 Γ2 ar2 Ha599 ∧ Mr (tA Γ2) pk1 z598 E600 c600 mp600 ∧ Ht w0 (frz z598 :: (ob g600 (.map E600 c600)) :: (blk g0 [.map (some gm1), .map (some g600), .slice A3 p0.wait_.length c3, .slice A4 p0.files_.length c4, vi p0.room_, vi p0.stop_, vb p0.down_, vi p0.calls_] 60) :: (ob gm1 (.map E1 c1)) :: (orow 52 1 (.slice A3 p0.wait_.length c3) p0.wait_.length d3) :: (orow 86 1 (.slice A4 p0.files_.length c4) p0.files_.length d4) :: (Ha599 ++ X)) w')) y559.length ⟨0, mp557, Ha556, g557, E557, c557, z554, rfl, Nat.zero_le _, hf, rfl, hm563, hz558, hA556, f557, hst558⟩ ?_
      rintro _ e' w601 ⟨i562, mp600, Ha599, g600, E600, c600, z598, rfl, hi562, hf, rfl, hz601, hy601_0, hA599, f600, hst601⟩
      replace f560 := f560.mono hz601; replace f1 := f1.mono hz601; replace f3 := f3.mono hz601; replace f4 := f4.mono hz601
      refine Run.seq ?_
      refine Run.region ?_
      refine Ops.ex (Ex.lss rfl rfl) rfl rfl rfl ?_
      refine Ops.nil ?_
      refine Run.seq ?_
      refine Run.cond rfl (fun hc => ?_) (fun hc => ?_)
      · have hl562 := lt_of_dec hc
        obtain ⟨a562, nxb562, ha562, hnxb562, hf⟩ := forL_in hf hl562
        unfold go_law04_Model_restart.b2 at hf
        try dsimp only at hf
        refine Run.skip ?_
        refine Run.seq ?_
        refine Run.block ?_
        refine Run.seq ?_
        refine Run.region ?_
        refine Ops.ex (Ex.move rfl) rfl rfl rfl ?_
        obtain ⟨g603, p603, o603, cs603, hA603, ho603, hr603, f603⟩ := SlH.elem f560.toH (atI_nat ha562)
        obtain rfl := hr603
        refine Ops.ex (Ex.ixA hA603 ho603 (atI_nat ha562) rfl rfl rfl Try.underlying52 sz9) rfl rfl rfl ?_
        refine Ops.load rfl Try.underlying9 rfl ((f603.mono hst601.le) 0 _ rfl) rfl ?_
        refine Ops.ex (Ex.assign rfl) rfl rfl rfl ?_
        refine Ops.ex (Ex.assign rfl) rfl rfl rfl ?_
        refine Ops.nil ?_
        have hm605 := Le.refl z598
        refine Run.drawH [([], fun w => ∃ ζ Y, Le z598 ζ ∧ Ht w0 (frz ζ :: (blk g0 [.map (some gm1), .map (some g600), .slice A3 p0.wait_.length c3, .slice A4 p0.files_.length c4, vi p0.room_, vi p0.stop_, vb p0.down_, vi p0.calls_] 60) :: (ob gm1 (.map E1 c1)) :: (orow 52 1 (.slice A3 p0.wait_.length c3) p0.wait_.length d3) :: (orow 86 1 (.slice A4 p0.files_.length c4) p0.files_.length d4) :: Y) w), ([15], fun w => ∃ ζ Y, Le z598 ζ ∧ Ht w0 (frz ζ :: (ob g600 (.map E600 c600)) :: Y) w)] (by kernel_rfl) hst601 (fun w604 hst604 => ?_)
        have hS0 := (⟨_, _, (Le.refl _), (St.up (St.up (St.up (St.up (St.up hst604 5 rfl) 5 rfl) 5 rfl) 5 rfl) 4 rfl)⟩ : (fun w => ∃ ζ Y, Le z598 ζ ∧ Ht w0 (frz ζ :: (blk g0 [.map (some gm1), .map (some g600), .slice A3 p0.wait_.length c3, .slice A4 p0.files_.length c4, vi p0.room_, vi p0.stop_, vb p0.down_, vi p0.calls_] 60) :: (ob gm1 (.map E1 c1)) :: (orow 52 1 (.slice A3 p0.wait_.length c3) p0.wait_.length d3) :: (orow 86 1 (.slice A4 p0.files_.length c4) p0.files_.length d4) :: Y) w) _)
        have hS1 := (⟨_, _, (Le.refl _), (St.up (St.up hst604 1 rfl) 1 rfl)⟩ : (fun w => ∃ ζ Y, Le z598 ζ ∧ Ht w0 (frz ζ :: (ob g600 (.map E600 c600)) :: Y) w) _)
        refine Any.takeE 0 rfl rfl rfl rfl (by kernel_rfl) (fun _ _ _ _ _ h => h) ((Ex.move rfl).s) ?_
        refine Any.takeE 1 rfl rfl rfl rfl (by kernel_rfl) (fun _ _ _ _ _ h => h) ((Ex.nilCheck rfl).s) ?_
        refine Any.takeE 2 rfl rfl rfl rfl (by kernel_rfl) (fun _ _ _ _ _ h => h) ((Ex.fieldAddr rfl Try.underlying60 rfl sz56).s) ?_
        refine Any.take 0 3 rfl rfl rfl rfl rfl (by kernel_rfl) (fun _ _ _ _ _ h => h) (ExS.load rfl Try.underlying56 rfl (fun w hS => by obtain ⟨_, _, _, hs⟩ := hS; exact hs.cell (i := 1) rfl rfl)) hS0 ?_
        refine Any.takeE 4 rfl rfl rfl rfl (by kernel_rfl) (fun _ _ _ _ _ h => h) ((Ex.move rfl).s) ?_
        refine Any.takeE 5 rfl rfl rfl rfl (by kernel_rfl) (fun _ _ _ _ _ h => h) ((Ex.move rfl).s) ?_
        refine Any.takeE 6 rfl rfl rfl rfl (by kernel_rfl) (fun _ _ _ _ _ h => h) ((Ex.nilCheck rfl).s) ?_
        refine Any.takeE 7 rfl rfl rfl rfl (by kernel_rfl) (fun _ _ _ _ _ h => h) ((Ex.fieldAddr rfl Try.underlying60 rfl sz58).s) ?_
        refine Any.take 0 8 rfl rfl rfl rfl rfl (by kernel_rfl) (fun _ _ _ _ _ h => h) (ExS.load rfl Try.underlying58 rfl (fun w hS => by obtain ⟨_, _, _, hs⟩ := hS; exact hs.cell (i := 1) rfl rfl)) hS0 ?_
        refine Any.takeE 9 rfl rfl rfl rfl (by kernel_rfl) (fun _ _ _ _ _ h => h) ((Ex.move rfl).s) ?_
        obtain ⟨y606, hy606, hf⟩ := bnd hf
        obtain ⟨g608, p608, o608, cs608, hA608, ho608, hr608, f608⟩ := own_elem f4 rfl (hst604.get (i := 5) rfl) hy606
        obtain ⟨A607, c607, rfl, f607⟩ := hr608
        refine Any.takeE 10 rfl rfl rfl rfl (by kernel_rfl) (fun _ _ _ _ _ h => h) ((Ex.ixA hA608 ho608 hy606 rfl rfl rfl Try.underlying58 sz86).s) ?_
        refine Any.take 0 11 rfl rfl rfl rfl rfl (by kernel_rfl) (fun _ _ _ _ _ h => h) (ExS.load rfl Try.underlying86 rfl (fun w hS => by obtain ⟨_, _, hz, hs⟩ := hS; exact (f608 _ (hs.get (i := 4) rfl)) 0 _ rfl)) hS0 ?_
        refine Any.takeE 12 rfl rfl rfl rfl (by kernel_rfl) (fun _ _ _ _ _ h => h) ((Ex.move rfl).s) ?_
        obtain ⟨y609, hy609, hf⟩ := bnd hf
        obtain ⟨g611, p611, o611, cs611, hA611, ho611, hr611, f611⟩ := SlH.elem f607.toH hy609
        obtain ⟨A610, rfl, f610⟩ := hr611
        refine Any.takeE 13 rfl rfl rfl rfl (by kernel_rfl) (fun _ _ _ _ _ h => h) ((Ex.ixA hA611 ho611 hy609 rfl rfl rfl Try.underlying86 sz62).s) ?_
        refine Any.take 0 14 rfl rfl rfl rfl rfl (by kernel_rfl) (fun _ _ _ _ _ h => h) (ExS.load rfl Try.underlying62 rfl (fun w hS => by obtain ⟨_, _, hz, hs⟩ := hS; exact (f611.mono (hz.trans hs.le)) 0 _ rfl)) hS0 ?_
        obtain ⟨y612, hy612, hf⟩ := bnd hf
        refine Any.one 15 (by kernel_rfl) rfl rfl (One.of_ops rfl ?_)
        refine Ops.call rfl rfl Try.func45 (by kernel_rfl) (by kernel_rfl) rfl (go_law04_set.walk (Γ2 := Γ2) (p0 := mp600) (p1 := a562) (p2 := y609) (hst := hst604) (f1 := f600) (f3 := f610) (hf := hy612)) ?_
        rintro _ w612 ⟨z612, E613, c613, rfl, hz612, f613, hst612⟩
        refine ⟨_, rfl, Ops.stop ?_⟩
        replace f560 := f560.mono hz612; replace f603 := f603.mono hz612; replace f607 := f607.mono hz612; replace f611 := f611.mono hz612; replace f610 := f610.mono hz612; replace f1 := f1.mono hz612; replace f3 := f3.mono hz612; replace f4 := f4.mono hz612; replace hA599 := hA599.mono hz612
        replace hy601_0 := hy601_0.trans hz612
        replace hz601 := hz601.trans hz612
        replace hm605 := hm605.trans hz612
        have hS0 := (⟨_, _, hm605, (St.up (St.up (St.up (St.up (St.up hst612 5 rfl) 5 rfl) 5 rfl) 5 rfl) 4 rfl)⟩ : (fun w => ∃ ζ Y, Le z598 ζ ∧ Ht w0 (frz ζ :: (blk g0 [.map (some gm1), .map (some g600), .slice A3 p0.wait_.length c3, .slice A4 p0.files_.length c4, vi p0.room_, vi p0.stop_, vb p0.down_, vi p0.calls_] 60) :: (ob gm1 (.map E1 c1)) :: (orow 52 1 (.slice A3 p0.wait_.length c3) p0.wait_.length d3) :: (orow 86 1 (.slice A4 p0.files_.length c4) p0.files_.length d4) :: Y) w) _)
        refine ⟨⟨.inr (fun _ => hS0), .inl (by decide), trivial⟩, ?_⟩
        refine Any.done (by kernel_rfl) ?_
        refine Run.endBlk ?_
        refine Run.region ?_
        refine Ops.ex (Ex.add rfl rfl) rfl rfl rfl ?_
        refine Ops.ex (Ex.move rfl) rfl rfl rfl ?_
        refine Ops.nil ?_
        refine Run.re 34 rfl (congrArg vi (wr_succ' hl562 hc562)) ?_
        exact Run.sub (by exact subB_spec ⟨rfl, rfl, rfl, rfl, rfl, rfl, rfl, trivial⟩) (Run.stop ⟨y559.length - (i562 + 1), by omega, i562 + 1, y612, Ha599, g600, E613, c613, z612, rfl, by omega, (hnxb562 _).symm.trans hf, rfl, hz601, hy601_0, hA599, f613, hst612⟩)
      · replace hf := forL_out hf (nlt_of_dec hc)
        try dsimp only at hf
        refine Run.exit _ rfl ?_
        refine Run.endBlk ?_
        refine Run.region ?_
        refine Ops.ex (Ex.move rfl) rfl rfl rfl ?_
        refine Ops.ex (Ex.add rfl rfl) rfl rfl rfl ?_
        refine Ops.ex (Ex.assign rfl) rfl rfl rfl ?_
        refine Ops.nil ?_
        exact Run.sub (by exact subB_spec ⟨rfl, rfl, rfl, rfl, trivial⟩) (Run.stop ⟨mb11', Nat.lt_succ_self _, wr (x555 + 1), mp600, Ha599, g600, E600, c600, z598, (hnxb11 _).symm.trans hf, rfl, hy601_0, hA599, f600, hst601⟩)
    · replace hf := ifF (dec_F hc) hf
      refine Run.exit _ rfl ?_
      refine Run.seq ?_
      refine Run.region ?_
      refine Ops.mkmap hst558 rfl (fun g614 w614 hst614 => ?_)
      refine Ops.ex (Ex.assign rfl) rfl rfl rfl ?_
      refine Ops.nil ?_
      refine Run.seq ?_
      refine Run.seq ?_
      refine Run.region ?_
      refine Ops.ex (Ex.move rfl) rfl rfl rfl ?_
      refine Ops.ex (Ex.nilCheck rfl) rfl rfl rfl ?_
      refine Ops.ex (Ex.fieldAddr rfl Try.underlying60 rfl sz56) rfl rfl rfl ?_
      refine Ops.load rfl Try.underlying56 rfl (hst614.cell (i := 3) rfl rfl) rfl ?_
      refine Ops.mrangeO 2 f557 hst614 rfl rfl Try.underlying56 rfl (fun g615 w615 f615 hst615 => ?_)
      refine Ops.nil ?_
      refine Run.block ?_
      have hm617 := Le.refl z554
      refine Run.sub (e' := [(0, .pointer (some ⟨g0, 0, none⟩)), (2, vi p2), (9, .map (some g614)), (61, .pointer (some ⟨g615, 0, none⟩))]) (subB_spec ⟨rfl, rfl, rfl, rfl, trivial⟩) ?_
      refine Run.loop (fun mb616 => (fun e' w' => ∃ (mp616 : Mp (Option Nat)) (mp687 : List Nat) (ar688 : List law04file) (g687 : Nat) (E687 : Array MapEntry) (c687 : Nat) (Ha688 : List Res) (q616 : Array Nat) (z686 : Zp), mb616 = mp616.length ∧ forN (go_law04_Model_restart.b3 p2) (fun (mp687, ar688) => (go_law04_copied mp557).bind fun y691 => some ((⟨y691.1, y691.2, [], [], p0.room_, (-1), false, p0.calls_⟩ : law04Model), ar688)) mp616.length mp616 (mp687, ar688) = some r ∧ e' = [(0, .pointer (some ⟨g0, 0, none⟩)), (2, vi p2), (9, .map (some g687)), (61, .pointer (some ⟨g615, 0, none⟩))] ∧ Le z554 z686 ∧ Le z0 z686 ∧ Ms Γ2 E687 c687 mp687 ∧ Ar2 z686 Γ2 ar688 Ha688 ∧ Mj (tA Γ2) pk1 z686 E557 c557 q616 mp616 ∧ Ht w0 (frz z686 :: (ob g687 (.map E687 c687)) :: (ob g615 (.mapIter (some g557) c557 q616 c557)) :: (ob g557 (.map E557 c557)) :: (blk g0 [.map (some gm1), .map (some g557), .slice A3 p0.wait_.length c3, .slice A4 p0.files_.length c4, vi p0.room_, vi p0.stop_, vb p0.down_, vi p0.calls_] 60) :: (ob gm1 (.map E1 c1)) :: (orow 52 1 (.slice A3 p0.wait_.length c3) p0.wait_.length d3) :: (orow 86 1 (.slice A4 p0.files_.length c4) p0.files_.length d4) :: (Ha688 ++ X)) w')) mp557.length ⟨mp557, [], ar2, g614, #[], 0, Ha556, #[], z554, rfl, hf, rfl, hm617, hz558, (Ms.nil Γ2), hA556, f615, (St.up (St.up (St.up (St.up (St.up (St.up (St.up (St.up hst615 7 rfl) 7 rfl) 7 rfl) 7 rfl) 7 rfl) 6 rfl) 7 rfl) 7 rfl)⟩ ?_
      rintro _ e' w689 ⟨mp616, mp687, ar688, g687, E687, c687, Ha688, q616, z686, rfl, hf, rfl, hz689, hy689_0, f687, hA688, fM616, hst689⟩
      replace f557 := f557.mono hz689; replace f1 := f1.mono hz689; replace f3 := f3.mono hz689; replace f4 := f4.mono hz689
      refine Run.seq ?_
      refine Run.region ?_
      have hsr616 := Mj.srt fM616
      refine Ops.mnextO 2 3 hst689 rfl rfl fM616 rfl rfl (fun hm0 => ?_) (fun a616 cs690 q690 w690 ham hR690 hC690 hM690 hst690 => ?_)
      · replace hf := forN_nil hf hm0
        try dsimp only at hf
        refine Ops.ex (Ex.extract rfl rfl) rfl rfl rfl ?_
        refine Ops.nil ?_
        refine Run.seq ?_
        refine Run.condF rfl rfl ?_
        refine Run.exit _ rfl ?_
        refine Run.region ?_
        refine Ops.ex (Ex.move rfl) rfl rfl rfl ?_
        refine Ops.ex (Ex.move rfl) rfl rfl rfl ?_
        refine Ops.ex (Ex.move rfl) rfl rfl rfl ?_
        refine Ops.ex (Ex.move rfl) rfl rfl rfl ?_
        refine Ops.ex (Ex.move rfl) rfl rfl rfl ?_
        refine Ops.ex (Ex.move rfl) rfl rfl rfl ?_
        refine Ops.ex (Ex.nilCheck rfl) rfl rfl rfl ?_
        refine Ops.ex (Ex.fieldAddr rfl Try.underlying60 rfl sz56) rfl rfl rfl ?_
        refine Ops.load rfl Try.underlying56 rfl (hst689.cell (i := 4) rfl rfl) rfl ?_
        obtain ⟨y691, hy691, hf⟩ := bnd hf
        refine Ops.call rfl rfl Try.func46 (by kernel_rfl) (by kernel_rfl) rfl (go_law04_copied.walk (Γ2 := Γ2) (p0 := mp557) (hst := (St.up (St.up (St.up (St.up (St.up (St.up (St.up (St.up hst689 7 rfl) 7 rfl) 7 rfl) 7 rfl) 6 rfl) 6 rfl) 7 rfl) 7 rfl)) (f1 := f557) (hf := hy691)) ?_
        rintro _ w691 ⟨z691, gm692, E692, c692, E693, c693, rfl, hz691, f692, f693, hst691⟩
        refine ⟨_, rfl, ?_⟩
        replace fM616 := fM616.mono hz691; replace f687 := f687.mono hz691; replace f1 := f1.mono hz691; replace f3 := f3.mono hz691; replace f4 := f4.mono hz691; replace hA688 := hA688.mono hz691
        replace hy689_0 := hy689_0.trans hz691
        replace hz689 := hz689.trans hz691
        refine Ops.ex (Ex.nilCheck rfl) rfl rfl rfl ?_
        refine Ops.ex (Ex.fieldAddr rfl Try.underlying60 rfl sz56) rfl rfl rfl ?_
        refine Ops.store 5 [.map (some gm692)] hst691 rfl rfl rfl rfl sz56 rfl (by simp [Value.oneCell']) (by simp) (fun w694 hst694 => ?_)
        refine Ops.ex (Ex.nilCheck rfl) rfl rfl rfl ?_
        refine Ops.ex (Ex.fieldAddr rfl Try.underlying60 rfl sz57) rfl rfl rfl ?_
        refine Ops.store 5 [.slice none 0 0] hst694 rfl rfl rfl rfl sz57 rfl (by simp [Value.oneCell']) (by simp) (fun w695 hst695 => ?_)
        refine Ops.ex (Ex.nilCheck rfl) rfl rfl rfl ?_
        refine Ops.ex (Ex.fieldAddr rfl Try.underlying60 rfl sz58) rfl rfl rfl ?_
        refine Ops.store 5 [.slice none 0 0] hst695 rfl rfl rfl rfl sz58 rfl (by simp [Value.oneCell']) (by simp) (fun w696 hst696 => ?_)
        refine Ops.ex (Ex.nilCheck rfl) rfl rfl rfl ?_
        refine Ops.ex (Ex.fieldAddr rfl Try.underlying60 rfl sz4) rfl rfl rfl ?_
        refine Ops.store 5 [vb false] hst696 rfl rfl rfl rfl sz4 rfl (by simp [Value.oneCell']) (by simp) (fun w697 hst697 => ?_)
        refine Ops.ex (Ex.nilCheck rfl) rfl rfl rfl ?_
        refine Ops.ex (Ex.fieldAddr rfl Try.underlying60 rfl sz3) rfl rfl rfl ?_
        refine Ops.store 5 [vi (-1)] hst697 rfl rfl rfl rfl sz3 rfl (by simp [Value.oneCell']) (by simp) (fun w698 hst698 => ?_)
        refine Ops.nil ?_
        have hst699 := St.row0 hst698 52 1
        have hst701 := St.row0 hst699 86 1
        obtain rfl := Option.some.inj hf
        exact Run.doneV [] rfl trivial ⟨z691, gm692, E692, c692, g557, E693, c693, none, 0, [], none, 0, [], Ha688, rfl, hy689_0, f692, f693, (Cs.nil _ _), (Cs.nil _ _), hA688, (St.up (St.up (St.up (St.up (St.up (St.up (St.forget (St.forget (St.forget (St.forget (St.forget hst701 10) 9) 8) 6) 5) 1 rfl) 2 rfl) 3 rfl) 4 rfl) 5 rfl) 5 rfl)⟩
      · obtain ⟨A703, rfl, f703⟩ := hR690
        obtain ⟨nxb616, hnxb616, hf⟩ := forN_cons hf hsr616 ham
        unfold go_law04_Model_restart.b3 at hf
        try dsimp only at hf
        replace hst690 : Ht w0 (frz z686 :: (ob g687 (.map E687 c687)) :: (ob g615 (.mapIter (some g557) c557 q690 c557)) :: (ob g557 (.map E557 c557)) :: (blk g0 [.map (some gm1), .map (some g557), .slice A3 p0.wait_.length c3, .slice A4 p0.files_.length c4, vi p0.room_, vi p0.stop_, vb p0.down_, vi p0.calls_] 60) :: (ob gm1 (.map E1 c1)) :: (orow 52 1 (.slice A3 p0.wait_.length c3) p0.wait_.length d3) :: (orow 86 1 (.slice A4 p0.files_.length c4) p0.files_.length d4) :: (Ha688 ++ X)) _ := hst690
        refine Ops.ex (Ex.extract rfl rfl) rfl rfl rfl ?_
        refine Ops.nil ?_
        refine Run.seq ?_
        refine Run.condT rfl rfl ?_
        refine Run.skip ?_
        refine Run.block ?_
        refine Run.seq ?_
        refine Run.region ?_
        refine Ops.mentryO (i := 2) (j := 3) hst690 rfl rfl hC690 rfl rfl ?_
        refine Ops.ex (Ex.extract rfl rfl) rfl rfl rfl ?_
        refine Ops.ex (Ex.assign rfl) rfl rfl rfl ?_
        refine Ops.nil ?_
        refine Run.seq ?_
        refine Run.region ?_
        refine Ops.ex (Ex.move rfl) rfl rfl rfl ?_
        refine Ops.ex (Ex.move rfl) rfl rfl rfl ?_
        obtain ⟨hN704, hB704⟩ := St.plain (B := [ob g687 (.map E687 c687), ob g615 (.mapIter (some g557) c557 q690 c557), ob g557 (.map E557 c557), blk g0 [.map (some gm1), .map (some g557), .slice A3 p0.wait_.length c3, .slice A4 p0.files_.length c4, vi p0.room_, vi p0.stop_, vb p0.down_, vi p0.calls_] 60, ob gm1 (.map E1 c1), orow 52 1 (.slice A3 p0.wait_.length c3) p0.wait_.length d3, orow 86 1 (.slice A4 p0.files_.length c4) p0.files_.length d4]) O2.blk hA688 hst690
        obtain ⟨i704, hi704, hf⟩ := bnd hf
        obtain ⟨g704, hA704, hg704⟩ := PtA.some f703 hi704
        refine Ops.plook f687 hN704 hB704 (hst690.get (i := 1) rfl) hg704 hA704 rfl rfl Try.underlying87 Try.underlying62 sz64 zr4 rfl ?_
        refine Ops.ex (Ex.not rfl) rfl rfl rfl ?_
        refine Ops.nil ?_
        refine Run.cond rfl (fun hc => ?_) (fun hc => ?_)
        · replace hf := ifF (neq_T hc) hf
          refine Run.seq ?_
          have hm706 := Le.refl z686
          obtain ⟨i705, hi705, hf⟩ := bnd hf
          obtain ⟨y705, hy705, hf⟩ := bnd hf
          obtain ⟨g705, hA705, hg705⟩ := PtA.some f703 hi705
          obtain ⟨rs705, Hr705, hO705, hP705, hcl705, hba705⟩ := ArL.open O2.mono hA688 hg705 hy705
          obtain rfl := hO705
          have hst705 : Ht w0 (frz z686 :: (ob g687 (.map E687 c687)) :: (ob g615 (.mapIter (some g557) c557 q690 c557)) :: (ob g557 (.map E557 c557)) :: (blk g0 [.map (some gm1), .map (some g557), .slice A3 p0.wait_.length c3, .slice A4 p0.files_.length c4, vi p0.room_, vi p0.stop_, vb p0.down_, vi p0.calls_] 60) :: (ob gm1 (.map E1 c1)) :: (orow 52 1 (.slice A3 p0.wait_.length c3) p0.wait_.length d3) :: (orow 86 1 (.slice A4 p0.files_.length c4) p0.files_.length d4) :: (blk g705 [vs y705.b_, vi y705.safe_] 64) :: (Hr705 ++ X)) _ := St.tailP (B := [ob g687 (.map E687 c687), ob g615 (.mapIter (some g557) c557 q690 c557), ob g557 (.map E557 c557), blk g0 [.map (some gm1), .map (some g557), .slice A3 p0.wait_.length c3, .slice A4 p0.files_.length c4, vi p0.room_, vi p0.stop_, vb p0.down_, vi p0.calls_] 60, ob gm1 (.map E1 c1), orow 52 1 (.slice A3 p0.wait_.length c3) p0.wait_.length d3, orow 86 1 (.slice A4 p0.files_.length c4) p0.files_.length d4]) hst690 hP705
          refine Run.drawH [([], fun w => ∃ ζ Y, Le z686 ζ ∧ Ht w0 (frz ζ :: (ob g687 (.map E687 c687)) :: (ob g615 (.mapIter (some g557) c557 q690 c557)) :: (ob g557 (.map E557 c557)) :: (blk g0 [.map (some gm1), .map (some g557), .slice A3 p0.wait_.length c3, .slice A4 p0.files_.length c4, vi p0.room_, vi p0.stop_, vb p0.down_, vi p0.calls_] 60) :: (ob gm1 (.map E1 c1)) :: (orow 52 1 (.slice A3 p0.wait_.length c3) p0.wait_.length d3) :: (orow 86 1 (.slice A4 p0.files_.length c4) p0.files_.length d4) :: Y) w), ([27], fun w => ∃ ζ Y, Le z686 ζ ∧ Ht w0 (frz ζ :: (blk g705 [vs y705.b_, vi y705.safe_] 64) :: Y) w)] (by kernel_rfl) hst705 (fun w709 hst709 => ?_)
          have hS0 := (⟨_, _, (Le.refl _), (St.up (St.up (St.up (St.up (St.up (St.up (St.up (St.up hst709 7 rfl) 7 rfl) 7 rfl) 7 rfl) 7 rfl) 7 rfl) 7 rfl) 7 rfl)⟩ : (fun w => ∃ ζ Y, Le z686 ζ ∧ Ht w0 (frz ζ :: (ob g687 (.map E687 c687)) :: (ob g615 (.mapIter (some g557) c557 q690 c557)) :: (ob g557 (.map E557 c557)) :: (blk g0 [.map (some gm1), .map (some g557), .slice A3 p0.wait_.length c3, .slice A4 p0.files_.length c4, vi p0.room_, vi p0.stop_, vb p0.down_, vi p0.calls_] 60) :: (ob gm1 (.map E1 c1)) :: (orow 52 1 (.slice A3 p0.wait_.length c3) p0.wait_.length d3) :: (orow 86 1 (.slice A4 p0.files_.length c4) p0.files_.length d4) :: Y) w) _)
          have hS1 := (⟨_, _, (Le.refl _), (St.up (St.up hst709 8 rfl) 1 rfl)⟩ : (fun w => ∃ ζ Y, Le z686 ζ ∧ Ht w0 (frz ζ :: (blk g705 [vs y705.b_, vi y705.safe_] 64) :: Y) w) _)
          refine Any.takeE 0 rfl rfl rfl rfl (by kernel_rfl) (fun _ _ _ _ _ h => h) ((Ex.move rfl).s) ?_
          refine Any.takeE 1 rfl rfl rfl rfl (by kernel_rfl) (fun _ _ _ _ _ h => h) ((Ex.move rfl).s) ?_
          refine Any.takeE 2 rfl rfl rfl rfl (by kernel_rfl) (fun _ _ _ _ _ h => h) ((Ex.nilP hA705 rfl).s) ?_
          refine Any.takeE 3 rfl rfl rfl rfl (by kernel_rfl) (fun _ _ _ _ _ h => h) ((Ex.fieldAddr rfl Try.underlying64 rfl sz9).s) ?_
          refine Any.take 1 4 rfl rfl rfl rfl rfl (by kernel_rfl) (fun _ _ _ _ _ h => h) (ExS.load rfl Try.underlying9 rfl (fun w hS => by obtain ⟨_, _, _, hs⟩ := hS; exact hs.cell (i := 1) rfl rfl)) hS1 ?_
          refine Any.takeE 5 rfl rfl rfl rfl (by kernel_rfl) (fun _ _ _ _ _ h => h) ((Ex.move rfl).s) ?_
          refine Any.takeE 6 rfl rfl rfl rfl (by kernel_rfl) (fun _ _ _ _ _ h => h) ((Ex.nilP hA705 rfl).s) ?_
          refine Any.takeE 7 rfl rfl rfl rfl (by kernel_rfl) (fun _ _ _ _ _ h => h) ((Ex.fieldAddr rfl Try.underlying64 rfl sz9).s) ?_
          refine Any.take 1 8 rfl rfl rfl rfl rfl (by kernel_rfl) (fun _ _ _ _ _ h => h) (ExS.load rfl Try.underlying9 rfl (fun w hS => by obtain ⟨_, _, _, hs⟩ := hS; exact hs.cell (i := 1) rfl rfl)) hS1 ?_
          refine Any.takeE 9 rfl rfl rfl rfl (by kernel_rfl) (fun _ _ _ _ _ h => h) ((Ex.lenT rfl rfl rfl Try.underlying9).s) ?_
          refine Any.takeE 10 rfl rfl rfl rfl (by kernel_rfl) (fun _ _ _ _ _ h => h) ((Ex.move rfl).s) ?_
          refine Any.takeE 11 rfl rfl rfl rfl (by kernel_rfl) (fun _ _ _ _ _ h => h) ((Ex.nilP hA705 rfl).s) ?_
          refine Any.takeE 12 rfl rfl rfl rfl (by kernel_rfl) (fun _ _ _ _ _ h => h) ((Ex.fieldAddr rfl Try.underlying64 rfl sz3).s) ?_
          refine Any.take 1 13 rfl rfl rfl rfl rfl (by kernel_rfl) (fun _ _ _ _ _ h => h) (ExS.load rfl Try.underlying3 rfl (fun w hS => by obtain ⟨_, _, _, hs⟩ := hS; exact hs.cell (i := 1) rfl rfl)) hS1 ?_
          refine Any.takeE 14 rfl rfl rfl rfl (by kernel_rfl) (fun _ _ _ _ _ h => h) ((Ex.move rfl).s) ?_
          refine Any.takeE 15 rfl rfl rfl rfl (by kernel_rfl) (fun _ _ _ _ _ h => h) ((Ex.move rfl).s) ?_
          refine Any.takeE 16 rfl rfl rfl rfl (by kernel_rfl) (fun _ _ _ _ _ h => h) ((Ex.nilP hA705 rfl).s) ?_
          refine Any.takeE 17 rfl rfl rfl rfl (by kernel_rfl) (fun _ _ _ _ _ h => h) ((Ex.fieldAddr rfl Try.underlying64 rfl sz9).s) ?_
          refine Any.take 1 18 rfl rfl rfl rfl rfl (by kernel_rfl) (fun _ _ _ _ _ h => h) (ExS.load rfl Try.underlying9 rfl (fun w hS => by obtain ⟨_, _, _, hs⟩ := hS; exact hs.cell (i := 1) rfl rfl)) hS1 ?_
          refine Any.takeE 19 rfl rfl rfl rfl (by kernel_rfl) (fun _ _ _ _ _ h => h) ((Ex.lenT rfl rfl rfl Try.underlying9).s) ?_
          refine Any.takeE 20 rfl rfl rfl rfl (by kernel_rfl) (fun _ _ _ _ _ h => h) ((Ex.min2 rfl rfl rfl).s) ?_
          refine Any.takeE 21 rfl rfl rfl rfl (by kernel_rfl) (fun _ _ _ _ _ h => h) ((Ex.max2 rfl rfl rfl).s) ?_
          refine Any.takeE 22 rfl rfl rfl rfl (by kernel_rfl) (fun _ _ _ _ _ h => h) ((Ex.add rfl rfl).s) ?_
          refine Any.takeE 23 rfl rfl rfl rfl (by kernel_rfl) (fun _ _ _ _ _ h => h) ((Ex.min2 rfl rfl rfl).s) ?_
          obtain ⟨s710, hy710, hf⟩ := bnd hf
          refine Any.takeE 24 rfl rfl rfl rfl (by kernel_rfl) (fun _ _ _ _ _ h => h) ((Ex.cutTh (lo := none) (hi := some _) hy710 rfl Try.underlying9 rfl ⟨_, rfl⟩).s) ?_
          refine Any.takeE 25 rfl rfl rfl rfl (by kernel_rfl) (fun _ _ _ _ _ h => h) ((Ex.nilP hA705 rfl).s) ?_
          refine Any.takeE 26 rfl rfl rfl rfl (by kernel_rfl) (fun _ _ _ _ _ h => h) ((Ex.fieldAddr rfl Try.underlying64 rfl sz9).s) ?_
          refine Any.one 27 (by kernel_rfl) rfl rfl (One.of_ops rfl ?_)
          refine Ops.store 8 [vs s710] hst709 rfl rfl rfl rfl sz9 rfl (by simp [Value.oneCell']) (by simp) (fun w711 hst711 => Ops.stop ?_)
          have hS0 := (⟨_, _, (Le.refl _), (St.up (St.up (St.up (St.up (St.up (St.up (St.up (St.up hst711 7 rfl) 7 rfl) 7 rfl) 7 rfl) 7 rfl) 7 rfl) 7 rfl) 7 rfl)⟩ : (fun w => ∃ ζ Y, Le z686 ζ ∧ Ht w0 (frz ζ :: (ob g687 (.map E687 c687)) :: (ob g615 (.mapIter (some g557) c557 q690 c557)) :: (ob g557 (.map E557 c557)) :: (blk g0 [.map (some gm1), .map (some g557), .slice A3 p0.wait_.length c3, .slice A4 p0.files_.length c4, vi p0.room_, vi p0.stop_, vb p0.down_, vi p0.calls_] 60) :: (ob gm1 (.map E1 c1)) :: (orow 52 1 (.slice A3 p0.wait_.length c3) p0.wait_.length d3) :: (orow 86 1 (.slice A4 p0.files_.length c4) p0.files_.length d4) :: Y) w) _)
          refine ⟨⟨.inr (fun _ => hS0), .inl (by decide), trivial⟩, ?_⟩
          refine Any.done (by kernel_rfl) ?_
          have hA712 : Ar2 z686 Γ2 (ar688.set i705 (⟨s710, y705.safe_⟩ : law04file)) ([blk g705 [vs s710, vi y705.safe_] 64] ++ Hr705) := hcl705 _ hm706 _ _ rfl
          obtain ⟨ar712, hy712, hf⟩ := bnd hf
          rw [Option.some.inj hy712] at hA712
          have hst712 : Ht w0 (frz z686 :: (ob g687 (.map E687 c687)) :: (ob g615 (.mapIter (some g557) c557 q690 c557)) :: (ob g557 (.map E557 c557)) :: (blk g0 [.map (some gm1), .map (some g557), .slice A3 p0.wait_.length c3, .slice A4 p0.files_.length c4, vi p0.room_, vi p0.stop_, vb p0.down_, vi p0.calls_] 60) :: (ob gm1 (.map E1 c1)) :: (orow 52 1 (.slice A3 p0.wait_.length c3) p0.wait_.length d3) :: (orow 86 1 (.slice A4 p0.files_.length c4) p0.files_.length d4) :: (([blk g705 [vs s710, vi y705.safe_] 64] ++ Hr705) ++ X)) _ := hst711
          refine Run.region ?_
          refine Ops.ex (Ex.move rfl) rfl rfl rfl ?_
          refine Ops.ex (Ex.move rfl) rfl rfl rfl ?_
          refine Ops.ex (Ex.move rfl) rfl rfl rfl ?_
          refine Ops.ex (Ex.move rfl) rfl rfl rfl ?_
          obtain ⟨i713, hi713, hf⟩ := bnd hf
          obtain ⟨y713, hy713, hf⟩ := bnd hf
          obtain ⟨g713, hA713, hg713⟩ := PtA.some f703 hi713
          obtain ⟨rs713, Hr713, hO713, hP713, hcl713, hba713⟩ := ArL.open O2.mono hA712 hg713 hy713
          obtain rfl := hO713
          have hst713 : Ht w0 (frz z686 :: (ob g687 (.map E687 c687)) :: (ob g615 (.mapIter (some g557) c557 q690 c557)) :: (ob g557 (.map E557 c557)) :: (blk g0 [.map (some gm1), .map (some g557), .slice A3 p0.wait_.length c3, .slice A4 p0.files_.length c4, vi p0.room_, vi p0.stop_, vb p0.down_, vi p0.calls_] 60) :: (ob gm1 (.map E1 c1)) :: (orow 52 1 (.slice A3 p0.wait_.length c3) p0.wait_.length d3) :: (orow 86 1 (.slice A4 p0.files_.length c4) p0.files_.length d4) :: (blk g713 [vs y713.b_, vi y713.safe_] 64) :: (Hr713 ++ X)) _ := St.tailP (B := [ob g687 (.map E687 c687), ob g615 (.mapIter (some g557) c557 q690 c557), ob g557 (.map E557 c557), blk g0 [.map (some gm1), .map (some g557), .slice A3 p0.wait_.length c3, .slice A4 p0.files_.length c4, vi p0.room_, vi p0.stop_, vb p0.down_, vi p0.calls_] 60, ob gm1 (.map E1 c1), orow 52 1 (.slice A3 p0.wait_.length c3) p0.wait_.length d3, orow 86 1 (.slice A4 p0.files_.length c4) p0.files_.length d4]) hst712 hP713
          refine Ops.ex (Ex.nilP hA713 rfl) rfl rfl rfl ?_
          refine Ops.ex (Ex.fieldAddr rfl Try.underlying64 rfl sz9) rfl rfl rfl ?_
          refine Ops.load rfl Try.underlying9 rfl (hst713.cell (i := 8) rfl rfl) rfl ?_
          refine Ops.ex (Ex.lenT rfl rfl rfl Try.underlying9) rfl rfl rfl ?_
          refine Ops.ex (Ex.nilP hA713 rfl) rfl rfl rfl ?_
          refine Ops.ex (Ex.fieldAddr rfl Try.underlying64 rfl sz3) rfl rfl rfl ?_
          refine Ops.store 8 [vi (y713.b_.length : Int)] hst713 rfl rfl rfl rfl sz3 rfl (by simp [Value.oneCell']) (by simp) (fun w716 hst716 => ?_)
          have hA717 : Ar2 z686 Γ2 (ar712.set i713 (⟨y713.b_, (y713.b_.length : Int)⟩ : law04file)) ([blk g713 [vs y713.b_, vi (y713.b_.length : Int)] 64] ++ Hr713) := hcl713 _ hm706 _ _ rfl
          obtain ⟨ar717, hy717, hf⟩ := bnd hf
          rw [Option.some.inj hy717] at hA717
          have hst717 : Ht w0 (frz z686 :: (ob g687 (.map E687 c687)) :: (ob g615 (.mapIter (some g557) c557 q690 c557)) :: (ob g557 (.map E557 c557)) :: (blk g0 [.map (some gm1), .map (some g557), .slice A3 p0.wait_.length c3, .slice A4 p0.files_.length c4, vi p0.room_, vi p0.stop_, vb p0.down_, vi p0.calls_] 60) :: (ob gm1 (.map E1 c1)) :: (orow 52 1 (.slice A3 p0.wait_.length c3) p0.wait_.length d3) :: (orow 86 1 (.slice A4 p0.files_.length c4) p0.files_.length d4) :: (([blk g713 [vs y713.b_, vi (y713.b_.length : Int)] 64] ++ Hr713) ++ X)) _ := hst716
          obtain ⟨hN718, hB718⟩ := St.plain (B := [ob g687 (.map E687 c687), ob g615 (.mapIter (some g557) c557 q690 c557), ob g557 (.map E557 c557), blk g0 [.map (some gm1), .map (some g557), .slice A3 p0.wait_.length c3, .slice A4 p0.files_.length c4, vi p0.room_, vi p0.stop_, vb p0.down_, vi p0.calls_] 60, ob gm1 (.map E1 c1), orow 52 1 (.slice A3 p0.wait_.length c3) p0.wait_.length d3, orow 86 1 (.slice A4 p0.files_.length c4) p0.files_.length d4]) O2.blk hA717 hst717
          obtain ⟨i718, hi718, hf⟩ := bnd hf
          obtain ⟨g718, hA718, hg718⟩ := PtA.some f703 hi718
          refine Ops.pput 1 hst717 rfl f687 hN718 hB718 hg718 hA718 rfl rfl rfl Try.underlying87 Try.underlying62 sz64 (fun E718 c718 w718 f718 hst718 => ?_)
          refine Ops.nil ?_
          refine Run.endBlk ?_
          exact Run.sub (by exact subB_spec ⟨rfl, rfl, rfl, rfl, trivial⟩) (Run.stop ⟨(mdel mp616 a616.1).length, (by have := mdel_len hsr616 ham; omega), (mdel mp616 a616.1), (i718 :: mp687), ar717, g687, E718, c718, ([blk g713 [vs y713.b_, vi (y713.b_.length : Int)] 64] ++ Hr713), q690, z686, rfl, (hnxb616 _).symm.trans hf, rfl, hz689, hy689_0, f718, hA717, hM690, hst718⟩)
        · replace hf := ifT (neq_F hc) hf
          refine Run.skip ?_
          refine Run.endBlk ?_
          exact Run.sub (by exact subB_spec ⟨rfl, rfl, rfl, rfl, trivial⟩) (Run.stop ⟨(mdel mp616 a616.1).length, (by have := mdel_len hsr616 ham; omega), (mdel mp616 a616.1), mp687, ar688, g687, E687, c687, Ha688, q690, z686, rfl, (hnxb616 _).symm.trans hf, rfl, hz689, hy689_0, f687, hA688, hM690, hst690⟩)
  · replace hf := ifF (dec_F hc) hf
    refine Ops.off rfl rfl ?_
    refine Ops.off rfl rfl ?_
    refine Ops.off rfl rfl ?_
    refine Ops.ex (Ex.pickF rfl rfl) rfl rfl rfl ?_
    refine Ops.nil ?_
    refine Run.condF rfl rfl ?_
    refine Run.exit _ rfl ?_
    refine Run.seq ?_
    refine Run.region ?_
    refine Ops.mkmap hst558 rfl (fun g719 w719 hst719 => ?_)
    refine Ops.ex (Ex.assign rfl) rfl rfl rfl ?_
    refine Ops.nil ?_
    refine Run.seq ?_
    refine Run.seq ?_
    refine Run.region ?_
    refine Ops.ex (Ex.move rfl) rfl rfl rfl ?_
    refine Ops.ex (Ex.nilCheck rfl) rfl rfl rfl ?_
    refine Ops.ex (Ex.fieldAddr rfl Try.underlying60 rfl sz56) rfl rfl rfl ?_
    refine Ops.load rfl Try.underlying56 rfl (hst719.cell (i := 3) rfl rfl) rfl ?_
    refine Ops.mrangeO 2 f557 hst719 rfl rfl Try.underlying56 rfl (fun g720 w720 f720 hst720 => ?_)
    refine Ops.nil ?_
    refine Run.block ?_
    have hm722 := Le.refl z554
    refine Run.sub (e' := [(0, .pointer (some ⟨g0, 0, none⟩)), (2, vi p2), (9, .map (some g719)), (61, .pointer (some ⟨g720, 0, none⟩))]) (subB_spec ⟨rfl, rfl, rfl, rfl, trivial⟩) ?_
    refine Run.loop (fun mb721 => (fun e' w' => ∃ (mp721 : Mp (Option Nat)) (mp792 : List Nat) (ar793 : List law04file) (g792 : Nat) (E792 : Array MapEntry) (c792 : Nat) (Ha793 : List Res) (q721 : Array Nat) (z791 : Zp), mb721 = mp721.length ∧ forN (go_law04_Model_restart.b4 p2) (fun (mp792, ar793) => (go_law04_copied mp557).bind fun y796 => some ((⟨y796.1, y796.2, [], [], p0.room_, (-1), false, p0.calls_⟩ : law04Model), ar793)) mp721.length mp721 (mp792, ar793) = some r ∧ e' = [(0, .pointer (some ⟨g0, 0, none⟩)), (2, vi p2), (9, .map (some g792)), (61, .pointer (some ⟨g720, 0, none⟩))] ∧ Le z554 z791 ∧ Le z0 z791 ∧ Ms Γ2 E792 c792 mp792 ∧ Ar2 z791 Γ2 ar793 Ha793 ∧ Mj (tA Γ2) pk1 z791 E557 c557 q721 mp721 ∧ Ht w0 (frz z791 :: (ob g792 (.map E792 c792)) :: (ob g720 (.mapIter (some g557) c557 q721 c557)) :: (ob g557 (.map E557 c557)) :: (blk g0 [.map (some gm1), .map (some g557), .slice A3 p0.wait_.length c3, .slice A4 p0.files_.length c4, vi p0.room_, vi p0.stop_, vb p0.down_, vi p0.calls_] 60) :: (ob gm1 (.map E1 c1)) :: (orow 52 1 (.slice A3 p0.wait_.length c3) p0.wait_.length d3) :: (orow 86 1 (.slice A4 p0.files_.length c4) p0.files_.length d4) :: (Ha793 ++ X)) w')) mp557.length ⟨mp557, [], ar2, g719, #[], 0, Ha556, #[], z554, rfl, hf, rfl, hm722, hz558, (Ms.nil Γ2), hA556, f720, (St.up (St.up (St.up (St.up (St.up (St.up (St.up (St.up hst720 7 rfl) 7 rfl) 7 rfl) 7 rfl) 7 rfl) 6 rfl) 7 rfl) 7 rfl)⟩ ?_
    rintro _ e' w794 ⟨mp721, mp792, ar793, g792, E792, c792, Ha793, q721, z791, rfl, hf, rfl, hz794, hy794_0, f792, hA793, fM721, hst794⟩
    replace f557 := f557.mono hz794; replace f1 := f1.mono hz794; replace f3 := f3.mono hz794; replace f4 := f4.mono hz794
    refine Run.seq ?_
    refine Run.region ?_
    have hsr721 := Mj.srt fM721
    refine Ops.mnextO 2 3 hst794 rfl rfl fM721 rfl rfl (fun hm0 => ?_) (fun a721 cs795 q795 w795 ham hR795 hC795 hM795 hst795 => ?_)
    · replace hf := forN_nil hf hm0
      try dsimp only at hf
      refine Ops.ex (Ex.extract rfl rfl) rfl rfl rfl ?_
      refine Ops.nil ?_
      refine Run.seq ?_
      refine Run.condF rfl rfl ?_
      refine Run.exit _ rfl ?_
      refine Run.region ?_
      refine Ops.ex (Ex.move rfl) rfl rfl rfl ?_
      refine Ops.ex (Ex.move rfl) rfl rfl rfl ?_
      refine Ops.ex (Ex.move rfl) rfl rfl rfl ?_
      refine Ops.ex (Ex.move rfl) rfl rfl rfl ?_
      refine Ops.ex (Ex.move rfl) rfl rfl rfl ?_
      refine Ops.ex (Ex.move rfl) rfl rfl rfl ?_
      refine Ops.ex (Ex.nilCheck rfl) rfl rfl rfl ?_
      refine Ops.ex (Ex.fieldAddr rfl Try.underlying60 rfl sz56) rfl rfl rfl ?_
      refine Ops.load rfl Try.underlying56 rfl (hst794.cell (i := 4) rfl rfl) rfl ?_
      obtain ⟨y796, hy796, hf⟩ := bnd hf
      refine Ops.call rfl rfl Try.func46 (by kernel_rfl) (by kernel_rfl) rfl (go_law04_copied.walk (Γ2 := Γ2) (p0 := mp557) (hst := (St.up (St.up (St.up (St.up (St.up (St.up (St.up (St.up hst794 7 rfl) 7 rfl) 7 rfl) 7 rfl) 6 rfl) 6 rfl) 7 rfl) 7 rfl)) (f1 := f557) (hf := hy796)) ?_
      rintro _ w796 ⟨z796, gm797, E797, c797, E798, c798, rfl, hz796, f797, f798, hst796⟩
      refine ⟨_, rfl, ?_⟩
      replace fM721 := fM721.mono hz796; replace f792 := f792.mono hz796; replace f1 := f1.mono hz796; replace f3 := f3.mono hz796; replace f4 := f4.mono hz796; replace hA793 := hA793.mono hz796
      replace hy794_0 := hy794_0.trans hz796
      replace hz794 := hz794.trans hz796
      refine Ops.ex (Ex.nilCheck rfl) rfl rfl rfl ?_
      refine Ops.ex (Ex.fieldAddr rfl Try.underlying60 rfl sz56) rfl rfl rfl ?_
      refine Ops.store 5 [.map (some gm797)] hst796 rfl rfl rfl rfl sz56 rfl (by simp [Value.oneCell']) (by simp) (fun w799 hst799 => ?_)
      refine Ops.ex (Ex.nilCheck rfl) rfl rfl rfl ?_
      refine Ops.ex (Ex.fieldAddr rfl Try.underlying60 rfl sz57) rfl rfl rfl ?_
      refine Ops.store 5 [.slice none 0 0] hst799 rfl rfl rfl rfl sz57 rfl (by simp [Value.oneCell']) (by simp) (fun w800 hst800 => ?_)
      refine Ops.ex (Ex.nilCheck rfl) rfl rfl rfl ?_
      refine Ops.ex (Ex.fieldAddr rfl Try.underlying60 rfl sz58) rfl rfl rfl ?_
      refine Ops.store 5 [.slice none 0 0] hst800 rfl rfl rfl rfl sz58 rfl (by simp [Value.oneCell']) (by simp) (fun w801 hst801 => ?_)
      refine Ops.ex (Ex.nilCheck rfl) rfl rfl rfl ?_
      refine Ops.ex (Ex.fieldAddr rfl Try.underlying60 rfl sz4) rfl rfl rfl ?_
      refine Ops.store 5 [vb false] hst801 rfl rfl rfl rfl sz4 rfl (by simp [Value.oneCell']) (by simp) (fun w802 hst802 => ?_)
      refine Ops.ex (Ex.nilCheck rfl) rfl rfl rfl ?_
      refine Ops.ex (Ex.fieldAddr rfl Try.underlying60 rfl sz3) rfl rfl rfl ?_
      refine Ops.store 5 [vi (-1)] hst802 rfl rfl rfl rfl sz3 rfl (by simp [Value.oneCell']) (by simp) (fun w803 hst803 => ?_)
      refine Ops.nil ?_
      have hst804 := St.row0 hst803 52 1
      have hst806 := St.row0 hst804 86 1
      obtain rfl := Option.some.inj hf
      exact Run.doneV [] rfl trivial ⟨z796, gm797, E797, c797, g557, E798, c798, none, 0, [], none, 0, [], Ha793, rfl, hy794_0, f797, f798, (Cs.nil _ _), (Cs.nil _ _), hA793, (St.up (St.up (St.up (St.up (St.up (St.up (St.forget (St.forget (St.forget (St.forget (St.forget hst806 10) 9) 8) 6) 5) 1 rfl) 2 rfl) 3 rfl) 4 rfl) 5 rfl) 5 rfl)⟩
    · obtain ⟨A808, rfl, f808⟩ := hR795
      obtain ⟨nxb721, hnxb721, hf⟩ := forN_cons hf hsr721 ham
      unfold go_law04_Model_restart.b4 at hf
      try dsimp only at hf
      replace hst795 : Ht w0 (frz z791 :: (ob g792 (.map E792 c792)) :: (ob g720 (.mapIter (some g557) c557 q795 c557)) :: (ob g557 (.map E557 c557)) :: (blk g0 [.map (some gm1), .map (some g557), .slice A3 p0.wait_.length c3, .slice A4 p0.files_.length c4, vi p0.room_, vi p0.stop_, vb p0.down_, vi p0.calls_] 60) :: (ob gm1 (.map E1 c1)) :: (orow 52 1 (.slice A3 p0.wait_.length c3) p0.wait_.length d3) :: (orow 86 1 (.slice A4 p0.files_.length c4) p0.files_.length d4) :: (Ha793 ++ X)) _ := hst795
      refine Ops.ex (Ex.extract rfl rfl) rfl rfl rfl ?_
      refine Ops.nil ?_
      refine Run.seq ?_
      refine Run.condT rfl rfl ?_
      refine Run.skip ?_
      refine Run.block ?_
      refine Run.seq ?_
      refine Run.region ?_
      refine Ops.mentryO (i := 2) (j := 3) hst795 rfl rfl hC795 rfl rfl ?_
      refine Ops.ex (Ex.extract rfl rfl) rfl rfl rfl ?_
      refine Ops.ex (Ex.assign rfl) rfl rfl rfl ?_
      refine Ops.nil ?_
      refine Run.seq ?_
      refine Run.region ?_
      refine Ops.ex (Ex.move rfl) rfl rfl rfl ?_
      refine Ops.ex (Ex.move rfl) rfl rfl rfl ?_
      obtain ⟨hN809, hB809⟩ := St.plain (B := [ob g792 (.map E792 c792), ob g720 (.mapIter (some g557) c557 q795 c557), ob g557 (.map E557 c557), blk g0 [.map (some gm1), .map (some g557), .slice A3 p0.wait_.length c3, .slice A4 p0.files_.length c4, vi p0.room_, vi p0.stop_, vb p0.down_, vi p0.calls_] 60, ob gm1 (.map E1 c1), orow 52 1 (.slice A3 p0.wait_.length c3) p0.wait_.length d3, orow 86 1 (.slice A4 p0.files_.length c4) p0.files_.length d4]) O2.blk hA793 hst795
      obtain ⟨i809, hi809, hf⟩ := bnd hf
      obtain ⟨g809, hA809, hg809⟩ := PtA.some f808 hi809
      refine Ops.plook f792 hN809 hB809 (hst795.get (i := 1) rfl) hg809 hA809 rfl rfl Try.underlying87 Try.underlying62 sz64 zr4 rfl ?_
      refine Ops.ex (Ex.not rfl) rfl rfl rfl ?_
      refine Ops.nil ?_
      refine Run.cond rfl (fun hc => ?_) (fun hc => ?_)
      · replace hf := ifF (neq_T hc) hf
        refine Run.seq ?_
        have hm811 := Le.refl z791
        obtain ⟨i810, hi810, hf⟩ := bnd hf
        obtain ⟨y810, hy810, hf⟩ := bnd hf
        obtain ⟨g810, hA810, hg810⟩ := PtA.some f808 hi810
        obtain ⟨rs810, Hr810, hO810, hP810, hcl810, hba810⟩ := ArL.open O2.mono hA793 hg810 hy810
        obtain rfl := hO810
        have hst810 : Ht w0 (frz z791 :: (ob g792 (.map E792 c792)) :: (ob g720 (.mapIter (some g557) c557 q795 c557)) :: (ob g557 (.map E557 c557)) :: (blk g0 [.map (some gm1), .map (some g557), .slice A3 p0.wait_.length c3, .slice A4 p0.files_.length c4, vi p0.room_, vi p0.stop_, vb p0.down_, vi p0.calls_] 60) :: (ob gm1 (.map E1 c1)) :: (orow 52 1 (.slice A3 p0.wait_.length c3) p0.wait_.length d3) :: (orow 86 1 (.slice A4 p0.files_.length c4) p0.files_.length d4) :: (blk g810 [vs y810.b_, vi y810.safe_] 64) :: (Hr810 ++ X)) _ := St.tailP (B := [ob g792 (.map E792 c792), ob g720 (.mapIter (some g557) c557 q795 c557), ob g557 (.map E557 c557), blk g0 [.map (some gm1), .map (some g557), .slice A3 p0.wait_.length c3, .slice A4 p0.files_.length c4, vi p0.room_, vi p0.stop_, vb p0.down_, vi p0.calls_] 60, ob gm1 (.map E1 c1), orow 52 1 (.slice A3 p0.wait_.length c3) p0.wait_.length d3, orow 86 1 (.slice A4 p0.files_.length c4) p0.files_.length d4]) hst795 hP810
        refine Run.drawH [([], fun w => ∃ ζ Y, Le z791 ζ ∧ Ht w0 (frz ζ :: (ob g792 (.map E792 c792)) :: (ob g720 (.mapIter (some g557) c557 q795 c557)) :: (ob g557 (.map E557 c557)) :: (blk g0 [.map (some gm1), .map (some g557), .slice A3 p0.wait_.length c3, .slice A4 p0.files_.length c4, vi p0.room_, vi p0.stop_, vb p0.down_, vi p0.calls_] 60) :: (ob gm1 (.map E1 c1)) :: (orow 52 1 (.slice A3 p0.wait_.length c3) p0.wait_.length d3) :: (orow 86 1 (.slice A4 p0.files_.length c4) p0.files_.length d4) :: Y) w), ([27], fun w => ∃ ζ Y, Le z791 ζ ∧ Ht w0 (frz ζ :: (blk g810 [vs y810.b_, vi y810.safe_] 64) :: Y) w)] (by kernel_rfl) hst810 (fun w814 hst814 => ?_)
        have hS0 := (⟨_, _, (Le.refl _), (St.up (St.up (St.up (St.up (St.up (St.up (St.up (St.up hst814 7 rfl) 7 rfl) 7 rfl) 7 rfl) 7 rfl) 7 rfl) 7 rfl) 7 rfl)⟩ : (fun w => ∃ ζ Y, Le z791 ζ ∧ Ht w0 (frz ζ :: (ob g792 (.map E792 c792)) :: (ob g720 (.mapIter (some g557) c557 q795 c557)) :: (ob g557 (.map E557 c557)) :: (blk g0 [.map (some gm1), .map (some g557), .slice A3 p0.wait_.length c3, .slice A4 p0.files_.length c4, vi p0.room_, vi p0.stop_, vb p0.down_, vi p0.calls_] 60) :: (ob gm1 (.map E1 c1)) :: (orow 52 1 (.slice A3 p0.wait_.length c3) p0.wait_.length d3) :: (orow 86 1 (.slice A4 p0.files_.length c4) p0.files_.length d4) :: Y) w) _)
        have hS1 := (⟨_, _, (Le.refl _), (St.up (St.up hst814 8 rfl) 1 rfl)⟩ : (fun w => ∃ ζ Y, Le z791 ζ ∧ Ht w0 (frz ζ :: (blk g810 [vs y810.b_, vi y810.safe_] 64) :: Y) w) _)
        refine Any.takeE 0 rfl rfl rfl rfl (by kernel_rfl) (fun _ _ _ _ _ h => h) ((Ex.move rfl).s) ?_
        refine Any.takeE 1 rfl rfl rfl rfl (by kernel_rfl) (fun _ _ _ _ _ h => h) ((Ex.move rfl).s) ?_
        refine Any.takeE 2 rfl rfl rfl rfl (by kernel_rfl) (fun _ _ _ _ _ h => h) ((Ex.nilP hA810 rfl).s) ?_
        refine Any.takeE 3 rfl rfl rfl rfl (by kernel_rfl) (fun _ _ _ _ _ h => h) ((Ex.fieldAddr rfl Try.underlying64 rfl sz9).s) ?_
        refine Any.take 1 4 rfl rfl rfl rfl rfl (by kernel_rfl) (fun _ _ _ _ _ h => h) (ExS.load rfl Try.underlying9 rfl (fun w hS => by obtain ⟨_, _, _, hs⟩ := hS; exact hs.cell (i := 1) rfl rfl)) hS1 ?_
        refine Any.takeE 5 rfl rfl rfl rfl (by kernel_rfl) (fun _ _ _ _ _ h => h) ((Ex.move rfl).s) ?_
        refine Any.takeE 6 rfl rfl rfl rfl (by kernel_rfl) (fun _ _ _ _ _ h => h) ((Ex.nilP hA810 rfl).s) ?_
        refine Any.takeE 7 rfl rfl rfl rfl (by kernel_rfl) (fun _ _ _ _ _ h => h) ((Ex.fieldAddr rfl Try.underlying64 rfl sz9).s) ?_
        refine Any.take 1 8 rfl rfl rfl rfl rfl (by kernel_rfl) (fun _ _ _ _ _ h => h) (ExS.load rfl Try.underlying9 rfl (fun w hS => by obtain ⟨_, _, _, hs⟩ := hS; exact hs.cell (i := 1) rfl rfl)) hS1 ?_
        refine Any.takeE 9 rfl rfl rfl rfl (by kernel_rfl) (fun _ _ _ _ _ h => h) ((Ex.lenT rfl rfl rfl Try.underlying9).s) ?_
        refine Any.takeE 10 rfl rfl rfl rfl (by kernel_rfl) (fun _ _ _ _ _ h => h) ((Ex.move rfl).s) ?_
        refine Any.takeE 11 rfl rfl rfl rfl (by kernel_rfl) (fun _ _ _ _ _ h => h) ((Ex.nilP hA810 rfl).s) ?_
        refine Any.takeE 12 rfl rfl rfl rfl (by kernel_rfl) (fun _ _ _ _ _ h => h) ((Ex.fieldAddr rfl Try.underlying64 rfl sz3).s) ?_
        refine Any.take 1 13 rfl rfl rfl rfl rfl (by kernel_rfl) (fun _ _ _ _ _ h => h) (ExS.load rfl Try.underlying3 rfl (fun w hS => by obtain ⟨_, _, _, hs⟩ := hS; exact hs.cell (i := 1) rfl rfl)) hS1 ?_
        refine Any.takeE 14 rfl rfl rfl rfl (by kernel_rfl) (fun _ _ _ _ _ h => h) ((Ex.move rfl).s) ?_
        refine Any.takeE 15 rfl rfl rfl rfl (by kernel_rfl) (fun _ _ _ _ _ h => h) ((Ex.move rfl).s) ?_
        refine Any.takeE 16 rfl rfl rfl rfl (by kernel_rfl) (fun _ _ _ _ _ h => h) ((Ex.nilP hA810 rfl).s) ?_
        refine Any.takeE 17 rfl rfl rfl rfl (by kernel_rfl) (fun _ _ _ _ _ h => h) ((Ex.fieldAddr rfl Try.underlying64 rfl sz9).s) ?_
        refine Any.take 1 18 rfl rfl rfl rfl rfl (by kernel_rfl) (fun _ _ _ _ _ h => h) (ExS.load rfl Try.underlying9 rfl (fun w hS => by obtain ⟨_, _, _, hs⟩ := hS; exact hs.cell (i := 1) rfl rfl)) hS1 ?_
        refine Any.takeE 19 rfl rfl rfl rfl (by kernel_rfl) (fun _ _ _ _ _ h => h) ((Ex.lenT rfl rfl rfl Try.underlying9).s) ?_
        refine Any.takeE 20 rfl rfl rfl rfl (by kernel_rfl) (fun _ _ _ _ _ h => h) ((Ex.min2 rfl rfl rfl).s) ?_
        refine Any.takeE 21 rfl rfl rfl rfl (by kernel_rfl) (fun _ _ _ _ _ h => h) ((Ex.max2 rfl rfl rfl).s) ?_
        refine Any.takeE 22 rfl rfl rfl rfl (by kernel_rfl) (fun _ _ _ _ _ h => h) ((Ex.add rfl rfl).s) ?_
        refine Any.takeE 23 rfl rfl rfl rfl (by kernel_rfl) (fun _ _ _ _ _ h => h) ((Ex.min2 rfl rfl rfl).s) ?_
        obtain ⟨s815, hy815, hf⟩ := bnd hf
        refine Any.takeE 24 rfl rfl rfl rfl (by kernel_rfl) (fun _ _ _ _ _ h => h) ((Ex.cutTh (lo := none) (hi := some _) hy815 rfl Try.underlying9 rfl ⟨_, rfl⟩).s) ?_
        refine Any.takeE 25 rfl rfl rfl rfl (by kernel_rfl) (fun _ _ _ _ _ h => h) ((Ex.nilP hA810 rfl).s) ?_
        refine Any.takeE 26 rfl rfl rfl rfl (by kernel_rfl) (fun _ _ _ _ _ h => h) ((Ex.fieldAddr rfl Try.underlying64 rfl sz9).s) ?_
        refine Any.one 27 (by kernel_rfl) rfl rfl (One.of_ops rfl ?_)
        refine Ops.store 8 [vs s815] hst814 rfl rfl rfl rfl sz9 rfl (by simp [Value.oneCell']) (by simp) (fun w816 hst816 => Ops.stop ?_)
        have hS0 := (⟨_, _, (Le.refl _), (St.up (St.up (St.up (St.up (St.up (St.up (St.up (St.up hst816 7 rfl) 7 rfl) 7 rfl) 7 rfl) 7 rfl) 7 rfl) 7 rfl) 7 rfl)⟩ : (fun w => ∃ ζ Y, Le z791 ζ ∧ Ht w0 (frz ζ :: (ob g792 (.map E792 c792)) :: (ob g720 (.mapIter (some g557) c557 q795 c557)) :: (ob g557 (.map E557 c557)) :: (blk g0 [.map (some gm1), .map (some g557), .slice A3 p0.wait_.length c3, .slice A4 p0.files_.length c4, vi p0.room_, vi p0.stop_, vb p0.down_, vi p0.calls_] 60) :: (ob gm1 (.map E1 c1)) :: (orow 52 1 (.slice A3 p0.wait_.length c3) p0.wait_.length d3) :: (orow 86 1 (.slice A4 p0.files_.length c4) p0.files_.length d4) :: Y) w) _)
        refine ⟨⟨.inr (fun _ => hS0), .inl (by decide), trivial⟩, ?_⟩
        refine Any.done (by kernel_rfl) ?_
        have hA817 : Ar2 z791 Γ2 (ar793.set i810 (⟨s815, y810.safe_⟩ : law04file)) ([blk g810 [vs s815, vi y810.safe_] 64] ++ Hr810) := hcl810 _ hm811 _ _ rfl
        obtain ⟨ar817, hy817, hf⟩ := bnd hf
        rw [Option.some.inj hy817] at hA817
        have hst817 : Ht w0 (frz z791 :: (ob g792 (.map E792 c792)) :: (ob g720 (.mapIter (some g557) c557 q795 c557)) :: (ob g557 (.map E557 c557)) :: (blk g0 [.map (some gm1), .map (some g557), .slice A3 p0.wait_.length c3, .slice A4 p0.files_.length c4, vi p0.room_, vi p0.stop_, vb p0.down_, vi p0.calls_] 60) :: (ob gm1 (.map E1 c1)) :: (orow 52 1 (.slice A3 p0.wait_.length c3) p0.wait_.length d3) :: (orow 86 1 (.slice A4 p0.files_.length c4) p0.files_.length d4) :: (([blk g810 [vs s815, vi y810.safe_] 64] ++ Hr810) ++ X)) _ := hst816
        refine Run.region ?_
        refine Ops.ex (Ex.move rfl) rfl rfl rfl ?_
        refine Ops.ex (Ex.move rfl) rfl rfl rfl ?_
        refine Ops.ex (Ex.move rfl) rfl rfl rfl ?_
        refine Ops.ex (Ex.move rfl) rfl rfl rfl ?_
        obtain ⟨i818, hi818, hf⟩ := bnd hf
        obtain ⟨y818, hy818, hf⟩ := bnd hf
        obtain ⟨g818, hA818, hg818⟩ := PtA.some f808 hi818
        obtain ⟨rs818, Hr818, hO818, hP818, hcl818, hba818⟩ := ArL.open O2.mono hA817 hg818 hy818
        obtain rfl := hO818
        have hst818 : Ht w0 (frz z791 :: (ob g792 (.map E792 c792)) :: (ob g720 (.mapIter (some g557) c557 q795 c557)) :: (ob g557 (.map E557 c557)) :: (blk g0 [.map (some gm1), .map (some g557), .slice A3 p0.wait_.length c3, .slice A4 p0.files_.length c4, vi p0.room_, vi p0.stop_, vb p0.down_, vi p0.calls_] 60) :: (ob gm1 (.map E1 c1)) :: (orow 52 1 (.slice A3 p0.wait_.length c3) p0.wait_.length d3) :: (orow 86 1 (.slice A4 p0.files_.length c4) p0.files_.length d4) :: (blk g818 [vs y818.b_, vi y818.safe_] 64) :: (Hr818 ++ X)) _ := St.tailP (B := [ob g792 (.map E792 c792), ob g720 (.mapIter (some g557) c557 q795 c557), ob g557 (.map E557 c557), blk g0 [.map (some gm1), .map (some g557), .slice A3 p0.wait_.length c3, .slice A4 p0.files_.length c4, vi p0.room_, vi p0.stop_, vb p0.down_, vi p0.calls_] 60, ob gm1 (.map E1 c1), orow 52 1 (.slice A3 p0.wait_.length c3) p0.wait_.length d3, orow 86 1 (.slice A4 p0.files_.length c4) p0.files_.length d4]) hst817 hP818
        refine Ops.ex (Ex.nilP hA818 rfl) rfl rfl rfl ?_
        refine Ops.ex (Ex.fieldAddr rfl Try.underlying64 rfl sz9) rfl rfl rfl ?_
        refine Ops.load rfl Try.underlying9 rfl (hst818.cell (i := 8) rfl rfl) rfl ?_
        refine Ops.ex (Ex.lenT rfl rfl rfl Try.underlying9) rfl rfl rfl ?_
        refine Ops.ex (Ex.nilP hA818 rfl) rfl rfl rfl ?_
        refine Ops.ex (Ex.fieldAddr rfl Try.underlying64 rfl sz3) rfl rfl rfl ?_
        refine Ops.store 8 [vi (y818.b_.length : Int)] hst818 rfl rfl rfl rfl sz3 rfl (by simp [Value.oneCell']) (by simp) (fun w821 hst821 => ?_)
        have hA822 : Ar2 z791 Γ2 (ar817.set i818 (⟨y818.b_, (y818.b_.length : Int)⟩ : law04file)) ([blk g818 [vs y818.b_, vi (y818.b_.length : Int)] 64] ++ Hr818) := hcl818 _ hm811 _ _ rfl
        obtain ⟨ar822, hy822, hf⟩ := bnd hf
        rw [Option.some.inj hy822] at hA822
        have hst822 : Ht w0 (frz z791 :: (ob g792 (.map E792 c792)) :: (ob g720 (.mapIter (some g557) c557 q795 c557)) :: (ob g557 (.map E557 c557)) :: (blk g0 [.map (some gm1), .map (some g557), .slice A3 p0.wait_.length c3, .slice A4 p0.files_.length c4, vi p0.room_, vi p0.stop_, vb p0.down_, vi p0.calls_] 60) :: (ob gm1 (.map E1 c1)) :: (orow 52 1 (.slice A3 p0.wait_.length c3) p0.wait_.length d3) :: (orow 86 1 (.slice A4 p0.files_.length c4) p0.files_.length d4) :: (([blk g818 [vs y818.b_, vi (y818.b_.length : Int)] 64] ++ Hr818) ++ X)) _ := hst821
        obtain ⟨hN823, hB823⟩ := St.plain (B := [ob g792 (.map E792 c792), ob g720 (.mapIter (some g557) c557 q795 c557), ob g557 (.map E557 c557), blk g0 [.map (some gm1), .map (some g557), .slice A3 p0.wait_.length c3, .slice A4 p0.files_.length c4, vi p0.room_, vi p0.stop_, vb p0.down_, vi p0.calls_] 60, ob gm1 (.map E1 c1), orow 52 1 (.slice A3 p0.wait_.length c3) p0.wait_.length d3, orow 86 1 (.slice A4 p0.files_.length c4) p0.files_.length d4]) O2.blk hA822 hst822
        obtain ⟨i823, hi823, hf⟩ := bnd hf
        obtain ⟨g823, hA823, hg823⟩ := PtA.some f808 hi823
        refine Ops.pput 1 hst822 rfl f792 hN823 hB823 hg823 hA823 rfl rfl rfl Try.underlying87 Try.underlying62 sz64 (fun E823 c823 w823 f823 hst823 => ?_)
        refine Ops.nil ?_
        refine Run.endBlk ?_
        exact Run.sub (by exact subB_spec ⟨rfl, rfl, rfl, rfl, trivial⟩) (Run.stop ⟨(mdel mp721 a721.1).length, (by have := mdel_len hsr721 ham; omega), (mdel mp721 a721.1), (i823 :: mp792), ar822, g792, E823, c823, ([blk g818 [vs y818.b_, vi (y818.b_.length : Int)] 64] ++ Hr818), q795, z791, rfl, (hnxb721 _).symm.trans hf, rfl, hz794, hy794_0, f823, hA822, hM795, hst823⟩)
      · replace hf := ifT (neq_F hc) hf
        refine Run.skip ?_
        refine Run.endBlk ?_
        exact Run.sub (by exact subB_spec ⟨rfl, rfl, rfl, rfl, trivial⟩) (Run.stop ⟨(mdel mp721 a721.1).length, (by have := mdel_len hsr721 ham; omega), (mdel mp721 a721.1), mp792, ar793, g792, E792, c792, Ha793, q795, z791, rfl, (hnxb721 _).symm.trans hf, rfl, hz794, hy794_0, f792, hA793, hM795, hst795⟩)
end
end Go.Proofs.Ytbonfgnmipmmbaa.F7
