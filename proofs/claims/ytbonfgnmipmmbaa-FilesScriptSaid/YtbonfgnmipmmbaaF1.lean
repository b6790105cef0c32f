/- Files: small functions. -/
import Derived.Test.YtbonfgnmipmmbaaProg
import Derived.Test.YtbonfgnmipmmbaaGnQ
namespace Go.Proofs.Ytbonfgnmipmmbaa.F1
open Go Go.RowKit Go.Proofs.Ytbonfgnmipmmbaa.Sx
set_option linter.unusedVariables false
set_option linter.unusedSimpArgs false
structure filesfile where
  b_ : List UInt8
  safe_ : Int
  deriving DecidableEq
def tfilesfile : Ty filesfile where
  sz := 2
  R := fun ζ cs x => ∃ A0 c0, cs = [.slice A0 x.b_.length c0, vi x.safe_] ∧ Sl tU8 ζ A0 c0 x.b_
  len := by rintro ζ cs x ⟨A0, c0, rfl, f0⟩; rfl
  one := by
    rintro ζ cs x ⟨A0, c0, rfl, f0⟩ u hu
    simp only [List.mem_cons, List.not_mem_nil, or_false] at hu
    rcases hu with rfl | rfl <;> rfl
  mono := by rintro ζ ζ' cs x ⟨A0, c0, rfl, f0⟩ hl; exact ⟨A0, c0, rfl, f0.mono hl⟩
structure fileschange where
  name_ : Str
  f_ : Option Nat
  deriving DecidableEq
def tfileschange (Γ1 : List Nat) : Ty fileschange where
  sz := 2
  R := fun ζ cs x => ∃ A1, cs = [vs x.name_, .pointer A1] ∧ PtA Γ1 A1 x.f_
  len := by rintro ζ cs x ⟨A1, rfl, f1⟩; rfl
  one := by
    rintro ζ cs x ⟨A1, rfl, f1⟩ u hu
    simp only [List.mem_cons, List.not_mem_nil, or_false] at hu
    rcases hu with rfl | rfl <;> rfl
  mono := by rintro ζ ζ' cs x ⟨A1, rfl, f1⟩ hl; exact ⟨A1, rfl, f1.mono hl⟩
theorem tfileschange.up {Γ1 Γ' : List Nat} (hG : Γ1 <+: Γ') : TUp (tfileschange Γ1) (tfileschange Γ') := by
  rintro ζ cs x ⟨A1, rfl, f1⟩
  exact ⟨A1, rfl, (f1.up hG)⟩
structure filesDisk where
  now_ : Mp (Option Nat)
  safe_ : Mp (Option Nat)
  wait_ : List (List fileschange)
  room_ : Int
  left_ : Int
  down_ : Bool
  calls_ : Int
  deriving DecidableEq
def tfilesDisk (Γ1 : List Nat) : Ty filesDisk where
  sz := 7
  R := fun ζ cs x => ∃ M0 M1 A2 c2, cs = [.map M0, .map M1, .slice A2 x.wait_.length c2, vi x.room_, vi x.left_, vb x.down_, vi x.calls_] ∧ Mz (tA Γ1) pk1 ζ M0 x.now_ ∧ Mz (tA Γ1) pk1 ζ M1 x.safe_ ∧ Sl (tSl (tfileschange Γ1)) ζ A2 c2 x.wait_
  len := by rintro ζ cs x ⟨M0, M1, A2, c2, rfl, f0, f1, f2⟩; rfl
  one := by
    rintro ζ cs x ⟨M0, M1, A2, c2, rfl, f0, f1, f2⟩ u hu
    simp only [List.mem_cons, List.not_mem_nil, or_false] at hu
    rcases hu with rfl | rfl | rfl | rfl | rfl | rfl | rfl <;> rfl
  mono := by rintro ζ ζ' cs x ⟨M0, M1, A2, c2, rfl, f0, f1, f2⟩ hl; exact ⟨M0, M1, A2, c2, rfl, f0.mono hl, f1.mono hl, f2.mono hl⟩
theorem tfilesDisk.up {Γ1 Γ' : List Nat} (hG : Γ1 <+: Γ') : TUp (tfilesDisk Γ1) (tfilesDisk Γ') := by
  rintro ζ cs x ⟨M0, M1, A2, c2, rfl, f0, f1, f2⟩
  exact ⟨M0, M1, A2, c2, rfl, (f0.up (tA.up hG)), (f1.up (tA.up hG)), (f2.up (tSl.up (tfileschange.up hG)))⟩
theorem zr68 : (Try.prog.info? 68).map (·.zero) = some (some (.agg #[.map none, .map none, .slice none 0 0, .int .i64 0, .int .i64 0, .bool false, .int .i64 0])) := by kernel_rfl
theorem pl68 {fs : Array Field} (h : Try.prog.underlying 68 = some (.struct fs)) (w : World) : (fs.mapM fun f => do pure (f.offset, ← sizeOf f.type) : Sem (Array (Nat × Nat))).run Try.prog w = .ok #[(0, 1), (1, 1), (2, 1), (3, 1), (4, 1), (5, 1), (6, 1)] w := by
  rw [Try.underlying68] at h
  cases h
  kernel_rfl
theorem sz3 : (Try.prog.info? 3).map (·.size) = some 1 := by kernel_rfl
theorem sz4 : (Try.prog.info? 4).map (·.size) = some 1 := by kernel_rfl
theorem sz69 : (Try.prog.info? 69).map (·.size) = some 1 := by kernel_rfl
theorem sz9 : (Try.prog.info? 9).map (·.size) = some 1 := by kernel_rfl
theorem sz5 : (Try.prog.info? 5).map (·.size) = some 1 := by kernel_rfl
theorem inf5 : (Try.prog.info? 5).map (fun i => (i.zero, i.size, i.bytes)) = some (some (.int .u8 0), 1, 1) := by kernel_rfl
def go_files_Of (p0 : Int) : Option filesDisk :=
  some (⟨[], [], [], max 0 p0, (-1), false, 0⟩ : filesDisk)
set_option maxRecDepth 100000 in
set_option maxHeartbeats 4000000 in
theorem go_files_Of.walk {w0 w : World} {Γ1 : List Nat} {X : List Res} {z0 : Zp} {p0 : Int} {r : filesDisk} (hst : Ht w0 (frz z0 :: X) w) (hf : go_files_Of p0 = some r) :
    Calls Try.prog 12 #[vi p0] w fun e w' => ∃ (z' : Zp) (g9001 : Nat) (gm9002 : Nat) (E9002 : Array MapEntry) (c9002 : Nat) (gm9003 : Nat) (E9003 : Array MapEntry) (c9003 : Nat) (A9004 : Option Addr) (c9004 : Nat) (d9004 : List Value), e = .returned (.pointer (some ⟨g9001, 0, none⟩)) ∧ Le z0 z' ∧ Mr (tA Γ1) pk1 z' E9002 c9002 r.now_ ∧ Mr (tA Γ1) pk1 z' E9003 c9003 r.safe_ ∧ Cs (tSl (tfileschange Γ1)) z' d9004 r.wait_ ∧ Ht w0 (frz z' :: (blk g9001 [.map (some gm9002), .map (some gm9003), .slice A9004 r.wait_.length c9004, vi r.room_, vi r.left_, vb r.down_, vi r.calls_] 68) :: (ob gm9002 (.map E9002 c9002)) :: (ob gm9003 (.map E9003 c9003)) :: (orow 78 1 (.slice A9004 r.wait_.length c9004) r.wait_.length d9004) :: X) w' := by
  refine calls_np Try.func12 rfl rfl ?_
  have hle0 := Le.refl z0
  unfold go_files_Of at hf
  refine Run.seq ?_
  refine Run.region ?_
  refine Ops.ex (Ex.assign rfl) rfl rfl rfl ?_
  refine Ops.nil ?_
  refine Run.seq ?_
  refine Run.region ?_
  refine Ops.mkmap hst rfl (fun g2 w2 hst2 => ?_)
  refine Ops.mkmap hst2 rfl (fun g3 w3 hst3 => ?_)
  refine Ops.ex (Ex.move rfl) rfl rfl rfl ?_
  refine Ops.ex (Ex.max2 rfl rfl rfl) rfl rfl rfl ?_
  refine Ops.ex (Ex.build [.map (some g2), .map (some g3), .slice none 0 0, vi (max 0 p0), vi (-1), vb false, vi 0] rfl Try.underlying68 zr68 (pl68 Try.underlying68) (by kernel_rfl)) rfl rfl rfl ?_
  refine Ops.boxF [.map (some g2), .map (some g3), .slice none 0 0, vi (max 0 p0), vi (-1), vb false, vi 0] hst3 rfl rfl rfl (fun g4 w4 hst4 => ?_)
  refine Ops.ex (Ex.assign rfl) rfl rfl rfl ?_
  refine Ops.nil ?_
  have hst5 := St.row0 hst4 78 1
  obtain rfl := Option.some.inj hf
  exact Run.retV [.pointer (some ⟨g4, 0, none⟩)] rfl ⟨rfl, trivial⟩ ⟨z0, g4, g2, #[], 0, g3, #[], 0, none, 0, [], rfl, hle0, (Mr.nil (tA Γ1) pk1 _), (Mr.nil (tA Γ1) pk1 _), (Cs.nil _ _), (St.up (St.up (St.up (St.up (St.up hst5 1 rfl) 3 rfl) 4 rfl) 4 rfl) 4 rfl)⟩
def go_files_Disk_call (p0 : filesDisk) : Option (Bool × filesDisk) :=
  some (!(decide (p0.left_ = 0)), (⟨p0.now_, p0.safe_, p0.wait_, p0.room_, max (-1) (wr (p0.left_ - 1)), decide (p0.left_ = 0), wr (p0.calls_ + 1)⟩ : filesDisk))
set_option maxRecDepth 100000 in
set_option maxHeartbeats 4000000 in
theorem go_files_Disk_call.walk {w0 w : World} {Γ1 : List Nat} {X : List Res} {z0 : Zp} {p0 : filesDisk} {g0 : Nat} {gm1 : Nat} {E1 : Array MapEntry} {c1 : Nat} {gm2 : Nat} {E2 : Array MapEntry} {c2 : Nat} {A3 : Option Addr} {c3 : Nat} {d3 : List Value} {r : Bool × filesDisk} (hst : Ht w0 (frz z0 :: (blk g0 [.map (some gm1), .map (some gm2), .slice A3 p0.wait_.length c3, vi p0.room_, vi p0.left_, vb p0.down_, vi p0.calls_] 68) :: (ob gm1 (.map E1 c1)) :: (ob gm2 (.map E2 c2)) :: (orow 78 1 (.slice A3 p0.wait_.length c3) p0.wait_.length d3) :: X) w) (f1 : Mr (tA Γ1) pk1 z0 E1 c1 p0.now_) (f2 : Mr (tA Γ1) pk1 z0 E2 c2 p0.safe_) (f3 : Cs (tSl (tfileschange Γ1)) z0 d3 p0.wait_) (hf : go_files_Disk_call p0 = some r) :
    Calls Try.prog 35 #[.pointer (some ⟨g0, 0, none⟩)] w fun e w' => ∃ (z' : Zp) (gm9002 : Nat) (E9002 : Array MapEntry) (c9002 : Nat) (gm9003 : Nat) (E9003 : Array MapEntry) (c9003 : Nat) (A9004 : Option Addr) (c9004 : Nat) (d9004 : List Value), e = .returned (vb r.1) ∧ Le z0 z' ∧ Mr (tA Γ1) pk1 z' E9002 c9002 r.2.now_ ∧ Mr (tA Γ1) pk1 z' E9003 c9003 r.2.safe_ ∧ Cs (tSl (tfileschange Γ1)) z' d9004 r.2.wait_ ∧ Ht w0 (frz z' :: (blk g0 [.map (some gm9002), .map (some gm9003), .slice A9004 r.2.wait_.length c9004, vi r.2.room_, vi r.2.left_, vb r.2.down_, vi r.2.calls_] 68) :: (ob gm9002 (.map E9002 c9002)) :: (ob gm9003 (.map E9003 c9003)) :: (orow 78 1 (.slice A9004 r.2.wait_.length c9004) r.2.wait_.length d9004) :: X) w' := by
  refine calls_np Try.func35 rfl rfl ?_
  have hle0 := Le.refl z0
  unfold go_files_Disk_call at hf
  refine Run.seq ?_
  refine Run.region ?_
  refine Ops.ex (Ex.assign rfl) rfl rfl rfl ?_
  refine Ops.nil ?_
  refine Run.seq ?_
  refine Run.region ?_
  refine Ops.ex (Ex.move rfl) rfl rfl rfl ?_
  refine Ops.ex (Ex.nilCheck rfl) rfl rfl rfl ?_
  refine Ops.ex (Ex.fieldAddr rfl Try.underlying68 rfl sz3) rfl rfl rfl ?_
  refine Ops.load rfl Try.underlying3 rfl (hst.cell (i := 1) rfl rfl) rfl ?_
  refine Ops.ex (Ex.add rfl rfl) rfl rfl rfl ?_
  refine Ops.ex (Ex.nilCheck rfl) rfl rfl rfl ?_
  refine Ops.ex (Ex.fieldAddr rfl Try.underlying68 rfl sz3) rfl rfl rfl ?_
  refine Ops.store 1 [vi (wr (p0.calls_ + 1))] hst rfl rfl rfl rfl sz3 rfl (by simp [Value.oneCell']) (by simp) (fun w8 hst8 => ?_)
  refine Ops.nil ?_
  refine Run.seq ?_
  refine Run.region ?_
  refine Ops.ex (Ex.move rfl) rfl rfl rfl ?_
  refine Ops.ex (Ex.move rfl) rfl rfl rfl ?_
  refine Ops.ex (Ex.nilCheck rfl) rfl rfl rfl ?_
  refine Ops.ex (Ex.fieldAddr rfl Try.underlying68 rfl sz3) rfl rfl rfl ?_
  refine Ops.load rfl Try.underlying3 rfl (hst8.cell (i := 1) rfl rfl) rfl ?_
  refine Ops.ex (Ex.eqlI rfl rfl) rfl rfl rfl ?_
  refine Ops.ex (Ex.nilCheck rfl) rfl rfl rfl ?_
  refine Ops.ex (Ex.fieldAddr rfl Try.underlying68 rfl sz4) rfl rfl rfl ?_
  refine Ops.store 1 [vb (decide (p0.left_ = 0))] hst8 rfl rfl rfl rfl sz4 rfl (by simp [Value.oneCell']) (by simp) (fun w9 hst9 => ?_)
  refine Ops.nil ?_
  refine Run.seq ?_
  refine Run.region ?_
  refine Ops.ex (Ex.move rfl) rfl rfl rfl ?_
  refine Ops.ex (Ex.move rfl) rfl rfl rfl ?_
  refine Ops.ex (Ex.nilCheck rfl) rfl rfl rfl ?_
  refine Ops.ex (Ex.fieldAddr rfl Try.underlying68 rfl sz3) rfl rfl rfl ?_
  refine Ops.load rfl Try.underlying3 rfl (hst9.cell (i := 1) rfl rfl) rfl ?_
  refine Ops.ex (Ex.sub rfl rfl) rfl rfl rfl ?_
  refine Ops.ex (Ex.max2 rfl rfl rfl) rfl rfl rfl ?_
  refine Ops.ex (Ex.nilCheck rfl) rfl rfl rfl ?_
  refine Ops.ex (Ex.fieldAddr rfl Try.underlying68 rfl sz3) rfl rfl rfl ?_
  refine Ops.store 1 [vi (max (-1) (wr (p0.left_ - 1)))] hst9 rfl rfl rfl rfl sz3 rfl (by simp [Value.oneCell']) (by simp) (fun w10 hst10 => ?_)
  refine Ops.nil ?_
  refine Run.seq ?_
  refine Run.region ?_
  refine Ops.ex (Ex.move rfl) rfl rfl rfl ?_
  refine Ops.ex (Ex.nilCheck rfl) rfl rfl rfl ?_
  refine Ops.ex (Ex.fieldAddr rfl Try.underlying68 rfl sz4) rfl rfl rfl ?_
  refine Ops.load rfl Try.underlying4 rfl (hst10.cell (i := 1) rfl rfl) rfl ?_
  refine Ops.ex (Ex.not rfl) rfl rfl rfl ?_
  refine Ops.ex (Ex.assign rfl) rfl rfl rfl ?_
  refine Ops.nil ?_
  obtain rfl := Option.some.inj hf
  exact Run.retV [vb (!(decide (p0.left_ = 0)))] rfl ⟨rfl, trivial⟩ ⟨z0, gm1, E1, c1, gm2, E2, c2, A3, c3, d3, rfl, hle0, f1, f2, f3, hst10⟩
def go_files_Disk_Down (p0 : filesDisk) : Option Bool :=
  some p0.down_
set_option maxRecDepth 100000 in
set_option maxHeartbeats 4000000 in
theorem go_files_Disk_Down.walk {w0 w : World} {Γ1 : List Nat} {X : List Res} {z0 : Zp} {p0 : filesDisk} {g0 : Nat} {gm1 : Nat} {E1 : Array MapEntry} {c1 : Nat} {gm2 : Nat} {E2 : Array MapEntry} {c2 : Nat} {A3 : Option Addr} {c3 : Nat} {d3 : List Value} {r : Bool} (hst : Ht w0 (frz z0 :: (blk g0 [.map (some gm1), .map (some gm2), .slice A3 p0.wait_.length c3, vi p0.room_, vi p0.left_, vb p0.down_, vi p0.calls_] 68) :: (ob gm1 (.map E1 c1)) :: (ob gm2 (.map E2 c2)) :: (orow 78 1 (.slice A3 p0.wait_.length c3) p0.wait_.length d3) :: X) w) (f1 : Mr (tA Γ1) pk1 z0 E1 c1 p0.now_) (f2 : Mr (tA Γ1) pk1 z0 E2 c2 p0.safe_) (f3 : Cs (tSl (tfileschange Γ1)) z0 d3 p0.wait_) (hf : go_files_Disk_Down p0 = some r) :
    Calls Try.prog 29 #[.pointer (some ⟨g0, 0, none⟩)] w fun e w' => ∃ (z' : Zp), e = .returned (vb r) ∧ Le z0 z' ∧ Ht w0 (frz z' :: (blk g0 [.map (some gm1), .map (some gm2), .slice A3 p0.wait_.length c3, vi p0.room_, vi p0.left_, vb p0.down_, vi p0.calls_] 68) :: (ob gm1 (.map E1 c1)) :: (ob gm2 (.map E2 c2)) :: (orow 78 1 (.slice A3 p0.wait_.length c3) p0.wait_.length d3) :: X) w' := by
  refine calls_np Try.func29 rfl rfl ?_
  have hle0 := Le.refl z0
  unfold go_files_Disk_Down at hf
  refine Run.seq ?_
  refine Run.region ?_
  refine Ops.ex (Ex.assign rfl) rfl rfl rfl ?_
  refine Ops.nil ?_
  refine Run.seq ?_
  refine Run.region ?_
  refine Ops.ex (Ex.move rfl) rfl rfl rfl ?_
  refine Ops.ex (Ex.nilCheck rfl) rfl rfl rfl ?_
  refine Ops.ex (Ex.fieldAddr rfl Try.underlying68 rfl sz4) rfl rfl rfl ?_
  refine Ops.load rfl Try.underlying4 rfl (hst.cell (i := 1) rfl rfl) rfl ?_
  refine Ops.ex (Ex.assign rfl) rfl rfl rfl ?_
  refine Ops.nil ?_
  obtain rfl := Option.some.inj hf
  exact Run.retV [vb p0.down_] rfl ⟨rfl, trivial⟩ ⟨z0, rfl, hle0, hst⟩
def go_files_Disk_Calls (p0 : filesDisk) : Option Int :=
  some p0.calls_
set_option maxRecDepth 100000 in
set_option maxHeartbeats 4000000 in
theorem go_files_Disk_Calls.walk {w0 w : World} {Γ1 : List Nat} {X : List Res} {z0 : Zp} {p0 : filesDisk} {g0 : Nat} {gm1 : Nat} {E1 : Array MapEntry} {c1 : Nat} {gm2 : Nat} {E2 : Array MapEntry} {c2 : Nat} {A3 : Option Addr} {c3 : Nat} {d3 : List Value} {r : Int} (hst : Ht w0 (frz z0 :: (blk g0 [.map (some gm1), .map (some gm2), .slice A3 p0.wait_.length c3, vi p0.room_, vi p0.left_, vb p0.down_, vi p0.calls_] 68) :: (ob gm1 (.map E1 c1)) :: (ob gm2 (.map E2 c2)) :: (orow 78 1 (.slice A3 p0.wait_.length c3) p0.wait_.length d3) :: X) w) (f1 : Mr (tA Γ1) pk1 z0 E1 c1 p0.now_) (f2 : Mr (tA Γ1) pk1 z0 E2 c2 p0.safe_) (f3 : Cs (tSl (tfileschange Γ1)) z0 d3 p0.wait_) (hf : go_files_Disk_Calls p0 = some r) :
    Calls Try.prog 17 #[.pointer (some ⟨g0, 0, none⟩)] w fun e w' => ∃ (z' : Zp), e = .returned (vi r) ∧ Le z0 z' ∧ Ht w0 (frz z' :: (blk g0 [.map (some gm1), .map (some gm2), .slice A3 p0.wait_.length c3, vi p0.room_, vi p0.left_, vb p0.down_, vi p0.calls_] 68) :: (ob gm1 (.map E1 c1)) :: (ob gm2 (.map E2 c2)) :: (orow 78 1 (.slice A3 p0.wait_.length c3) p0.wait_.length d3) :: X) w' := by
  refine calls_np Try.func17 rfl rfl ?_
  have hle0 := Le.refl z0
  unfold go_files_Disk_Calls at hf
  refine Run.seq ?_
  refine Run.region ?_
  refine Ops.ex (Ex.assign rfl) rfl rfl rfl ?_
  refine Ops.nil ?_
  refine Run.seq ?_
  refine Run.region ?_
  refine Ops.ex (Ex.move rfl) rfl rfl rfl ?_
  refine Ops.ex (Ex.nilCheck rfl) rfl rfl rfl ?_
  refine Ops.ex (Ex.fieldAddr rfl Try.underlying68 rfl sz3) rfl rfl rfl ?_
  refine Ops.load rfl Try.underlying3 rfl (hst.cell (i := 1) rfl rfl) rfl ?_
  refine Ops.ex (Ex.assign rfl) rfl rfl rfl ?_
  refine Ops.nil ?_
  obtain rfl := Option.some.inj hf
  exact Run.retV [vi p0.calls_] rfl ⟨rfl, trivial⟩ ⟨z0, rfl, hle0, hst⟩
def go_files_put (p0 : Mp (Option Nat)) (p1 : fileschange) : Option (Mp (Option Nat)) :=
  if p1.f_ = none then (some (mdel p0 p1.name_)) else (some (mput p0 p1.name_ p1.f_))
set_option maxRecDepth 100000 in
set_option maxHeartbeats 4000000 in
theorem go_files_put.walk {w0 w : World} {Γ1 : List Nat} {X : List Res} {z0 : Zp} {p0 : Mp (Option Nat)} {gm1 : Nat} {E1 : Array MapEntry} {c1 : Nat} {p1 : fileschange} {A3 : Option Addr} {r : Mp (Option Nat)} (hst : Ht w0 (frz z0 :: (ob gm1 (.map E1 c1)) :: X) w) (f1 : Mr (tA Γ1) pk1 z0 E1 c1 p0) (f3 : PtA Γ1 A3 p1.f_) (hf : go_files_put p0 p1 = some r) :
    Calls Try.prog 39 #[.map (some gm1), .agg #[vs p1.name_, .pointer A3]] w fun e w' => ∃ (z' : Zp) (E9001 : Array MapEntry) (c9001 : Nat), e = .returned (.tuple #[]) ∧ Le z0 z' ∧ Mr (tA Γ1) pk1 z' E9001 c9001 r ∧ Ht w0 (frz z' :: (ob gm1 (.map E9001 c9001)) :: X) w' := by
  refine calls_np Try.func39 rfl rfl ?_
  have hle0 := Le.refl z0
  unfold go_files_put at hf
  refine Run.seq ?_
  refine Run.region ?_
  refine Ops.boxF [vs p1.name_, .pointer A3] hst rfl rfl rfl (fun g4 w4 hst4 => ?_)
  refine Ops.nil ?_
  refine Run.seq ?_
  refine Run.seq ?_
  refine Run.region ?_
  refine Ops.ex (Ex.fieldAddr rfl Try.underlying75 rfl sz69) rfl rfl rfl ?_
  refine Ops.load rfl Try.underlying69 rfl (hst4.cell (i := 1) rfl rfl) rfl ?_
  refine Ops.ex (Ex.eqlA f3 rfl rfl Try.underlying69) rfl rfl rfl ?_
  refine Ops.nil ?_
  refine Run.cond rfl (fun hc => ?_) (fun hc => ?_)
  · replace hf := ifT (dec_T hc) hf
    refine Run.seq ?_
    refine Run.region ?_
    refine Ops.ex (Ex.move rfl) rfl rfl rfl ?_
    refine Ops.ex (Ex.fieldAddr rfl Try.underlying75 rfl sz9) rfl rfl rfl ?_
    refine Ops.load rfl Try.underlying9 rfl (hst4.cell (i := 1) rfl rfl) rfl ?_
    refine Ops.mdelO (s := p1.name_) 2 hst4 rfl f1 rfl rfl rfl rfl Try.underlying65 Try.underlying9 (fun E5 w5 f5 hst5 => ?_)
    refine Ops.nil ?_
    obtain rfl := Option.some.inj hf
    exact Run.retV [] rfl trivial ⟨z0, E5, c1, rfl, hle0, f5, (St.forget hst5 1)⟩
  · replace hf := ifF (dec_F hc) hf
    refine Run.skip ?_
    refine Run.region ?_
    refine Ops.ex (Ex.move rfl) rfl rfl rfl ?_
    refine Ops.ex (Ex.fieldAddr rfl Try.underlying75 rfl sz9) rfl rfl rfl ?_
    refine Ops.load rfl Try.underlying9 rfl (hst4.cell (i := 1) rfl rfl) rfl ?_
    refine Ops.ex (Ex.fieldAddr rfl Try.underlying75 rfl sz69) rfl rfl rfl ?_
    refine Ops.load rfl Try.underlying69 rfl (hst4.cell (i := 1) rfl rfl) rfl ?_
    refine Ops.mputO (s := p1.name_) (a := p1.f_) (cs := [.pointer A3]) 2 hst4 rfl f1 ⟨_, rfl, f3⟩ rfl rfl rfl Try.underlying65 Try.underlying9 (fun E6 c6 w6 f6 hst6 => ?_)
    refine Ops.nil ?_
    obtain rfl := Option.some.inj hf
    exact Run.doneV [] rfl trivial ⟨z0, E6, c6, rfl, hle0, f6, (St.forget hst6 1)⟩
def go_slices_Clip_byte_byte (p0 : List UInt8) : Option (List UInt8) :=
  (cutI p0 0 (p0.length : Int)).bind fun l2 => (cap3 p0.length (p0.length : Int) (p0.length : Int)).bind fun _ => some l2
set_option maxRecDepth 100000 in
set_option maxHeartbeats 4000000 in
theorem go_slices_Clip_byte_byte.walk {w0 w : World} {X : List Res} {z0 : Zp} {p0 : List UInt8} {A1 : Option Addr} {c1 : Nat} {d1 : List Value} {r : List UInt8} (hst : Ht w0 (frz z0 :: (orow 5 1 (.slice A1 p0.length c1) p0.length d1) :: X) w) (f1 : Cs tU8 z0 d1 p0) (hf : go_slices_Clip_byte_byte p0 = some r) :
    Calls Try.prog 40 #[.slice A1 p0.length c1] w fun e w' => ∃ (z' : Zp) (A9001 : Option Addr) (c9001 : Nat) (d9001 : List Value), e = .returned (.slice A9001 r.length c9001) ∧ Le z0 z' ∧ Cs tU8 z' d9001 r ∧ Ht w0 (frz z' :: (orow 5 1 (.slice A9001 r.length c9001) r.length d9001) :: X) w' := by
  refine calls_np Try.func40 rfl rfl ?_
  have hle0 := Le.refl z0
  unfold go_slices_Clip_byte_byte at hf
  refine Run.seq ?_
  refine Run.region ?_
  refine Ops.ex (Ex.assign rfl) rfl rfl rfl ?_
  refine Ops.nil ?_
  refine Run.seq ?_
  refine Run.region ?_
  refine Ops.ex (Ex.move rfl) rfl rfl rfl ?_
  refine Ops.ex (Ex.move rfl) rfl rfl rfl ?_
  refine Ops.ex (Ex.len' rfl rfl rfl Try.underlying22) rfl rfl rfl ?_
  refine Ops.ex (Ex.move rfl) rfl rfl rfl ?_
  refine Ops.ex (Ex.len' rfl rfl rfl Try.underlying22) rfl rfl rfl ?_
  obtain ⟨l2, hy2, hf⟩ := bnd hf
  obtain ⟨_, hq2, hf⟩ := bnd hf
  replace hq2 := cap3_some hq2
  skip
  obtain ⟨hl2, f2⟩ := own_pre f1 rfl (hst.get (i := 1) rfl) hy2
  refine Ops.ex (Ex.pre3 hl2 hy2 hq2 rfl rfl Try.underlying22 sz5 rfl rfl rfl) rfl rfl rfl ?_
  refine Ops.ex (Ex.assign rfl) rfl rfl rfl ?_
  refine Ops.nil ?_
  obtain ⟨fC3, hC3⟩ := St.cutRow (c' := (p0.length : Int).toNat) 1 hst rfl f1 rfl hy2 (cut_len hy2 hq2) (cut_cap hq2 hl2)
  have hst3 : Ht w0 (frz z0 :: (orow 5 1 (.slice A1 l2.length ((p0.length : Int).toNat)) l2.length (List.take (l2.length * 1) d1)) :: X) _ := hC3
  obtain rfl := Option.some.inj hf
  exact Run.retV [.slice A1 l2.length ((p0.length : Int).toNat)] rfl ⟨rfl, trivial⟩ ⟨z0, A1, (p0.length : Int).toNat, (List.take (l2.length * 1) d1), rfl, hle0, fC3, hst3⟩
def go_slices_Clone_byte_byte (p0 : List UInt8) : Option (List UInt8 × List UInt8) :=
  (apB 1 [] p0).bind fun l5 => some (l5, p0)
set_option maxRecDepth 100000 in
set_option maxHeartbeats 4000000 in
theorem go_slices_Clone_byte_byte.walk {w0 w : World} {X : List Res} {z0 : Zp} {p0 : List UInt8} {A1 : Option Addr} {c1 : Nat} {n1 : Nat} {d1 : List Value} {r : List UInt8 × List UInt8} (hst : Ht w0 (frz z0 :: (orow 5 1 (.slice A1 n1 c1) n1 d1) :: X) w) (f1 : Cs tU8 z0 d1 p0) (hn1 : p0.length = n1) (hf : go_slices_Clone_byte_byte p0 = some r) :
    Calls Try.prog 37 #[.slice A1 n1 c1] w fun e w' => ∃ (z' : Zp) (A9001 : Option Addr) (c9001 : Nat) (d9001 : List Value) (d9002 : List Value), e = .returned (.slice A9001 r.1.length c9001) ∧ Le z0 z' ∧ Cs tU8 z' d9001 r.1 ∧ Cs tU8 z' d9002 r.2 ∧ r.2.length = n1 ∧ Ht w0 (frz z' :: (orow 5 1 (.slice A1 n1 c1) n1 d9002) :: (orow 5 1 (.slice A9001 r.1.length c9001) r.1.length d9001) :: X) w' := by
  refine calls_np Try.func37 rfl rfl ?_
  have hle0 := Le.refl z0
  unfold go_slices_Clone_byte_byte at hf
  refine Run.seq ?_
  refine Run.region ?_
  refine Ops.ex (Ex.assign rfl) rfl rfl rfl ?_
  refine Ops.nil ?_
  refine Run.seq ?_
  refine Run.seq ?_
  refine Run.region ?_
  refine Ops.ex (Ex.move rfl) rfl rfl rfl ?_
  refine Ops.ex (Ex.eqlSN rfl rfl Try.underlying22) rfl rfl rfl ?_
  refine Ops.nil ?_
  refine Run.cond rfl (fun hc => ?_) (fun hc => ?_)
  · have hx0 := own_none f1 hn1 (hst.get (i := 1) rfl) (of_decide_eq_true hc)
    replace hf : (some ([], p0)) = some r := by rw [hx0] at hf ⊢; simpa [apB, cutI] using hf
    refine Run.seq ?_
    refine Run.region ?_
    refine Ops.ex (Ex.assign rfl) rfl rfl rfl ?_
    refine Ops.nil ?_
    have hst2 := St.row0 hst 5 1
    obtain rfl := Option.some.inj hf
    exact Run.retV [.slice none 0 0] rfl ⟨rfl, trivial⟩ ⟨z0, none, 0, [], d1, rfl, hle0, (Cs.nil _ _), f1, hn1, (St.up (St.up (St.up hst2 1 rfl) 2 rfl) 2 rfl)⟩
  · skip
    refine Run.skip ?_
    refine Run.seq ?_
    refine Run.region ?_
    refine Ops.sliceE hst Try.underlying22 sz5 rfl (fun A4 w4 hst4 => ?_)
    refine Ops.ex (Ex.move rfl) rfl rfl rfl ?_
    obtain ⟨l5, hy5, hf⟩ := bnd hf
    refine Ops.app 1 hst4 rfl (Cs.nil tU8 _) rfl (own_slh f1 hn1 (hst4.get (i := 2) rfl)) hn1 hy5 rfl rfl rfl rfl Try.underlying22 inf5 rfl (by decide) (by decide) rfl (fun A5 c5 d5 w5 f5 hst5 => ?_)
    refine Ops.ex (Ex.assign rfl) rfl rfl rfl ?_
    refine Ops.nil ?_
    obtain rfl := Option.some.inj hf
    exact Run.retV [.slice A5 l5.length c5] rfl ⟨rfl, trivial⟩ ⟨z0, A5, c5, d5, d1, rfl, hle0, f5, f1, hn1, (St.up (St.up (St.up hst5 1 rfl) 2 rfl) 2 rfl)⟩
end Go.Proofs.Ytbonfgnmipmmbaa.F1
