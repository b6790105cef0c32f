/- Script: walks. -/
import Derived.Test.YtiijlkebolfcpaaProg
import Derived.Test.YtiijlkebolfcpaaSxH
namespace Go.Proofs.Ytiijlkebolfcpaa.Script
open Go Go.RowKit Go.Proofs.Ytiijlkebolfcpaa.Sx
set_option linter.unusedVariables false
set_option linter.unusedSimpArgs false
theorem sz5 : (Try.prog.info? 5).map (·.size) = some 1 := by kernel_rfl
theorem sz9 : (Try.prog.info? 9).map (·.size) = some 1 := by kernel_rfl
theorem sz28 : (Try.prog.info? 28).map (·.size) = some 1 := by kernel_rfl
theorem sz30 : (Try.prog.info? 30).map (·.size) = some 6 := by kernel_rfl
theorem sz32 : (Try.prog.info? 32).map (·.size) = some 11 := by kernel_rfl
theorem zr5 : (Try.prog.info? 5).map (·.zero) = some (some (.int .u8 0)) := by kernel_rfl
theorem zr30 : (Try.prog.info? 30).map (·.zero) = some (some (.agg #[.int .i64 0, .int .i64 0, .int .i64 0, .string ⟨#[]⟩, .string ⟨#[]⟩, .string ⟨#[]⟩])) := by kernel_rfl
theorem zr32 : (Try.prog.info? 32).map (·.zero) = some (some (.agg #[.int .i64 0, .int .i64 0, .int .i64 0, .int .i64 0, .int .i64 0, .int .i64 0, .int .i64 0, .int .i64 0, .string ⟨#[]⟩, .string ⟨#[]⟩, .string ⟨#[]⟩])) := by kernel_rfl
theorem inf32 : (Try.prog.info? 32).map (fun i => (i.zero, i.size, i.bytes)) = some (some (.agg #[.int .i64 0, .int .i64 0, .int .i64 0, .int .i64 0, .int .i64 0, .int .i64 0, .int .i64 0, .int .i64 0, .string ⟨#[]⟩, .string ⟨#[]⟩, .string ⟨#[]⟩]), 11, 112) := by kernel_rfl
theorem pl30 {fs : Array Field} (h : Try.prog.underlying 30 = some (.struct fs)) (w : World) : (fs.mapM fun f => do pure (f.offset, ← sizeOf f.type) : Sem (Array (Nat × Nat))).run Try.prog w = .ok #[(0, 1), (1, 1), (2, 1), (3, 1), (4, 1), (5, 1)] w := by
  rw [Try.underlying30] at h
  cases h
  kernel_rfl
theorem pl32 {fs : Array Field} (h : Try.prog.underlying 32 = some (.struct fs)) (w : World) : (fs.mapM fun f => do pure (f.offset, ← sizeOf f.type) : Sem (Array (Nat × Nat))).run Try.prog w = .ok #[(0, 1), (1, 1), (2, 1), (3, 1), (4, 1), (5, 6)] w := by
  rw [Try.underlying32] at h
  cases h
  kernel_rfl

def opN (a : Int) : Int := 1 + a % 4 % 3
def keyS (b : Int) : ByteArray := strOfNums [97 + b % 4]
def valS (q : Int) : ByteArray := strOfNums [48 + q % 4]
/-- A command's six cells. -/
def cmdL (a b : Int) : List Value := [.int .i64 (opN a), .int .i64 (a / 4 % 4), .int .i64 (a / 16), .string (keyS b), .string (if opN a = 2 then ⟨#[]⟩ else valS (b / 4)), .string (if opN a = 3 then valS (b / 16) else ⟨#[]⟩)]

set_option maxRecDepth 100000 in
set_option maxHeartbeats 2000000 in
theorem cmd_calls (a b : Int) (w : World) (ha : 0 ≤ a) (ha2 : a < 256) (hb : 0 ≤ b) (hb2 : b < 256) (hst : St w (fps []) [] w) :
    Calls Try.prog 38 #[.int .u8 a, .int .u8 b] w fun e w' => e = .returned (.agg (cmdL a b).toArray) ∧ St w (fps []) [] w' := by
  refine calls_of_run Try.func38 rfl rfl ?_
  refine Run.seq ?_
  refine Run.region ?_
  refine Ops.alloc _ hst zr30 rfl rfl (fun g1 w1 hst1 hg1 => ?_)
  refine Ops.nil ?_
  refine Run.seq ?_
  refine Run.region ?_
  refine Ops.move rfl rfl ?_
  first | refine Ops.remI rfl rfl rfl (by omega) (by omega) ?_ | refine Ops.rem rfl rfl rfl (by omega) ?_
  first | refine Ops.convQ rfl Try.underlying5 Try.underlying28 (wrap_i64_in (by omega) (by omega)) rfl ?_ | refine Ops.conv rfl Try.underlying5 Try.underlying28 rfl ?_
  first | refine Ops.remI rfl rfl rfl (by omega) (by omega) ?_ | refine Ops.rem rfl rfl rfl (by omega) ?_
  first | refine Ops.addI rfl rfl rfl (by omega) (by omega) ?_ | refine Ops.add rfl rfl rfl ?_
  refine Ops.move rfl rfl ?_
  first | refine Ops.quoQ rfl rfl rfl (by omega) (by omega) (wrap_u8_in (by omega) (by omega)) ?_ | refine Ops.quo rfl rfl rfl (by omega) ?_
  first | refine Ops.convQ rfl Try.underlying5 Try.underlying3 (wrap_i64_in (by omega) (by omega)) rfl ?_ | refine Ops.conv rfl Try.underlying5 Try.underlying3 rfl ?_
  first | refine Ops.remI rfl rfl rfl (by omega) (by omega) ?_ | refine Ops.rem rfl rfl rfl (by omega) ?_
  refine Ops.move rfl rfl ?_
  first | refine Ops.quoQ rfl rfl rfl (by omega) (by omega) (wrap_u8_in (by omega) (by omega)) ?_ | refine Ops.quo rfl rfl rfl (by omega) ?_
  first | refine Ops.convQ rfl Try.underlying5 Try.underlying3 (wrap_i64_in (by omega) (by omega)) rfl ?_ | refine Ops.conv rfl Try.underlying5 Try.underlying3 rfl ?_
  refine Ops.move rfl rfl ?_
  first | refine Ops.remI rfl rfl rfl (by omega) (by omega) ?_ | refine Ops.rem rfl rfl rfl (by omega) ?_
  first | refine Ops.addQ rfl rfl rfl (wrap_u8_in (by omega) (by omega)) ?_ | refine Ops.add rfl rfl rfl ?_
  refine Ops.buildSlice [.int .u8 (97 + b % 4)] hst1 rfl Try.underlying22 sz5 zr5 rfl rfl (by kernel_rfl) rfl (fun g2 w2 hst2 hg2 => ?_)
  refine Ops.toStr [97 + b % 4] rfl Try.underlying22 Try.underlying5 Try.underlying9 (Rd_of_blk hst2 (i := 1) rfl rfl (by simp [Value.oneCell'])) rfl ?_
  refine Ops.build [.int .i64 (opN a), .int .i64 (a / 4 % 4), .int .i64 (a / 16), .string (keyS b), .string ⟨#[]⟩, .string ⟨#[]⟩] rfl Try.underlying30 zr30 (pl30 Try.underlying30) (by kernel_rfl) rfl ?_
  refine Ops.alloc _ hst2 zr30 rfl rfl (fun g4 w4 hst4 hg4 => ?_)
  first | refine Ops.store 0 _ hst4 rfl rfl rfl rfl sz30 rfl (by simp [Value.oneCell']) (by simp) (fun w5 hst5 => ?_) | refine Ops.store 1 _ hst4 rfl rfl rfl rfl sz30 rfl (by simp [Value.oneCell']) (by simp) (fun w5 hst5 => ?_) | refine Ops.store 2 _ hst4 rfl rfl rfl rfl sz30 rfl (by simp [Value.oneCell']) (by simp) (fun w5 hst5 => ?_) | refine Ops.store 3 _ hst4 rfl rfl rfl rfl sz30 rfl (by simp [Value.oneCell']) (by simp) (fun w5 hst5 => ?_) | refine Ops.store 4 _ hst4 rfl rfl rfl rfl sz30 rfl (by simp [Value.oneCell']) (by simp) (fun w5 hst5 => ?_)
  refine Ops.nil ?_
  refine Run.seq ?_
  refine Run.seq ?_
  refine Run.region ?_
  refine Ops.fieldAddr rfl Try.underlying30 rfl sz28 rfl ?_
  refine Ops.load rfl Try.underlying28 rfl (by first | exact hst5.cell (i := 0) rfl rfl | exact hst5.cell (i := 1) rfl rfl | exact hst5.cell (i := 2) rfl rfl | exact hst5.cell (i := 3) rfl rfl | exact hst5.cell (i := 4) rfl rfl | assumption) rfl ?_
  refine Ops.neq rfl rfl rfl ?_
  refine Ops.nil ?_
  refine Run.cond rfl (fun hc26 => ?_) (fun hc26 => ?_)
  · skip
    refine Run.region ?_
    refine Ops.move rfl rfl ?_
    first | refine Ops.quoQ rfl rfl rfl (by omega) (by omega) (wrap_u8_in (by omega) (by omega)) ?_ | refine Ops.quo rfl rfl rfl (by omega) ?_
    first | refine Ops.remI rfl rfl rfl (by omega) (by omega) ?_ | refine Ops.rem rfl rfl rfl (by omega) ?_
    first | refine Ops.addQ rfl rfl rfl (wrap_u8_in (by omega) (by omega)) ?_ | refine Ops.add rfl rfl rfl ?_
    refine Ops.buildSlice [.int .u8 (48 + b / 4 % 4)] hst5 rfl Try.underlying22 sz5 zr5 rfl rfl (by kernel_rfl) rfl (fun g6 w6 hst6 hg6 => ?_)
    refine Ops.toStr [48 + b / 4 % 4] rfl Try.underlying22 Try.underlying5 Try.underlying9 (Rd_of_blk hst6 (i := 3) rfl rfl (by simp [Value.oneCell'])) rfl ?_
    refine Ops.fieldAddr rfl Try.underlying30 rfl sz9 rfl ?_
    first | refine Ops.store 0 [_] hst6 rfl rfl rfl rfl sz9 rfl (by simp [Value.oneCell']) (by simp) (fun w7 hst7 => ?_) | refine Ops.store 1 [_] hst6 rfl rfl rfl rfl sz9 rfl (by simp [Value.oneCell']) (by simp) (fun w7 hst7 => ?_) | refine Ops.store 2 [_] hst6 rfl rfl rfl rfl sz9 rfl (by simp [Value.oneCell']) (by simp) (fun w7 hst7 => ?_) | refine Ops.store 3 [_] hst6 rfl rfl rfl rfl sz9 rfl (by simp [Value.oneCell']) (by simp) (fun w7 hst7 => ?_) | refine Ops.store 4 [_] hst6 rfl rfl rfl rfl sz9 rfl (by simp [Value.oneCell']) (by simp) (fun w7 hst7 => ?_)
    refine Ops.nil ?_
    refine Run.seq ?_
    refine Run.seq ?_
    refine Run.region ?_
    refine Ops.fieldAddr rfl Try.underlying30 rfl sz28 rfl ?_
    refine Ops.load rfl Try.underlying28 rfl (by first | exact hst7.cell (i := 0) rfl rfl | exact hst7.cell (i := 1) rfl rfl | exact hst7.cell (i := 2) rfl rfl | exact hst7.cell (i := 3) rfl rfl | exact hst7.cell (i := 4) rfl rfl | assumption) rfl ?_
    refine Ops.eql rfl rfl rfl ?_
    refine Ops.nil ?_
    refine Run.cond rfl (fun hc36 => ?_) (fun hc36 => ?_)
    · skip
      refine Run.region ?_
      refine Ops.move rfl rfl ?_
      first | refine Ops.quoQ rfl rfl rfl (by omega) (by omega) (wrap_u8_in (by omega) (by omega)) ?_ | refine Ops.quo rfl rfl rfl (by omega) ?_
      first | refine Ops.remI rfl rfl rfl (by omega) (by omega) ?_ | refine Ops.rem rfl rfl rfl (by omega) ?_
      first | refine Ops.addQ rfl rfl rfl (wrap_u8_in (by omega) (by omega)) ?_ | refine Ops.add rfl rfl rfl ?_
      refine Ops.buildSlice [.int .u8 (48 + b / 16 % 4)] hst7 rfl Try.underlying22 sz5 zr5 rfl rfl (by kernel_rfl) rfl (fun g8 w8 hst8 hg8 => ?_)
      refine Ops.toStr [48 + b / 16 % 4] rfl Try.underlying22 Try.underlying5 Try.underlying9 (by first | exact Rd_of_blk hst8 (i := 4) rfl rfl (by simp [Value.oneCell']) | exact Rd_of_blk hst8 (i := 3) rfl rfl (by simp [Value.oneCell'])) rfl ?_
      refine Ops.fieldAddr rfl Try.underlying30 rfl sz9 rfl ?_
      first | refine Ops.store 0 [_] hst8 rfl rfl rfl rfl sz9 rfl (by simp [Value.oneCell']) (by simp) (fun w9 hst9 => ?_) | refine Ops.store 1 [_] hst8 rfl rfl rfl rfl sz9 rfl (by simp [Value.oneCell']) (by simp) (fun w9 hst9 => ?_) | refine Ops.store 2 [_] hst8 rfl rfl rfl rfl sz9 rfl (by simp [Value.oneCell']) (by simp) (fun w9 hst9 => ?_) | refine Ops.store 3 [_] hst8 rfl rfl rfl rfl sz9 rfl (by simp [Value.oneCell']) (by simp) (fun w9 hst9 => ?_) | refine Ops.store 4 [_] hst8 rfl rfl rfl rfl sz9 rfl (by simp [Value.oneCell']) (by simp) (fun w9 hst9 => ?_)
      refine Ops.nil ?_
      refine Run.seq ?_
      refine Run.region ?_
      first | refine Ops.loadAgg _ rfl Try.underlying30 rfl sz30 rfl (hst9.cells (i := 0) rfl _ 6) rfl ?_ | refine Ops.loadAgg _ rfl Try.underlying30 rfl sz30 rfl (hst9.cells (i := 1) rfl _ 6) rfl ?_ | refine Ops.loadAgg _ rfl Try.underlying30 rfl sz30 rfl (hst9.cells (i := 2) rfl _ 6) rfl ?_ | refine Ops.loadAgg _ rfl Try.underlying30 rfl sz30 rfl (hst9.cells (i := 3) rfl _ 6) rfl ?_ | refine Ops.loadAgg _ rfl Try.underlying30 rfl sz30 rfl (hst9.cells (i := 4) rfl _ 6) rfl ?_
      first | refine Ops.store 0 _ hst9 rfl rfl rfl rfl sz30 rfl (by simp [Value.oneCell']) (by simp) (fun w10 hst10 => ?_) | refine Ops.store 1 _ hst9 rfl rfl rfl rfl sz30 rfl (by simp [Value.oneCell']) (by simp) (fun w10 hst10 => ?_) | refine Ops.store 2 _ hst9 rfl rfl rfl rfl sz30 rfl (by simp [Value.oneCell']) (by simp) (fun w10 hst10 => ?_) | refine Ops.store 3 _ hst9 rfl rfl rfl rfl sz30 rfl (by simp [Value.oneCell']) (by simp) (fun w10 hst10 => ?_) | refine Ops.store 4 _ hst9 rfl rfl rfl rfl sz30 rfl (by simp [Value.oneCell']) (by simp) (fun w10 hst10 => ?_)
      refine Ops.nil ?_
      refine Run.ret _ rfl (fun a ha => resC rfl rfl (run_loadN _ Try.underlying30 rfl sz30 rfl (by first | exact hst10.cells (i := 0) rfl _ 6 | exact hst10.cells (i := 1) rfl _ 6 | exact hst10.cells (i := 2) rfl _ 6 | exact hst10.cells (i := 3) rfl _ 6 | exact hst10.cells (i := 4) rfl _ 6)) ha) ?_
      refine ⟨congrArg (fun l : List Value => Ending.returned (.agg l.toArray)) ?_, hst10.sub (List.nil_sublist _)⟩
      simp at hc26 hc36
      first | omega | (simp [cmdL, hc26, hc36, opN, valS] at *; try simp [hc26, hc36])
    · skip
      refine Run.skip ?_
      refine Run.seq ?_
      refine Run.region ?_
      first | refine Ops.loadAgg _ rfl Try.underlying30 rfl sz30 rfl (hst7.cells (i := 0) rfl _ 6) rfl ?_ | refine Ops.loadAgg _ rfl Try.underlying30 rfl sz30 rfl (hst7.cells (i := 1) rfl _ 6) rfl ?_ | refine Ops.loadAgg _ rfl Try.underlying30 rfl sz30 rfl (hst7.cells (i := 2) rfl _ 6) rfl ?_ | refine Ops.loadAgg _ rfl Try.underlying30 rfl sz30 rfl (hst7.cells (i := 3) rfl _ 6) rfl ?_ | refine Ops.loadAgg _ rfl Try.underlying30 rfl sz30 rfl (hst7.cells (i := 4) rfl _ 6) rfl ?_
      first | refine Ops.store 0 _ hst7 rfl rfl rfl rfl sz30 rfl (by simp [Value.oneCell']) (by simp) (fun w11 hst11 => ?_) | refine Ops.store 1 _ hst7 rfl rfl rfl rfl sz30 rfl (by simp [Value.oneCell']) (by simp) (fun w11 hst11 => ?_) | refine Ops.store 2 _ hst7 rfl rfl rfl rfl sz30 rfl (by simp [Value.oneCell']) (by simp) (fun w11 hst11 => ?_) | refine Ops.store 3 _ hst7 rfl rfl rfl rfl sz30 rfl (by simp [Value.oneCell']) (by simp) (fun w11 hst11 => ?_) | refine Ops.store 4 _ hst7 rfl rfl rfl rfl sz30 rfl (by simp [Value.oneCell']) (by simp) (fun w11 hst11 => ?_)
      refine Ops.nil ?_
      refine Run.ret _ rfl (fun a ha => resC rfl rfl (run_loadN _ Try.underlying30 rfl sz30 rfl (by first | exact hst11.cells (i := 0) rfl _ 6 | exact hst11.cells (i := 1) rfl _ 6 | exact hst11.cells (i := 2) rfl _ 6 | exact hst11.cells (i := 3) rfl _ 6 | exact hst11.cells (i := 4) rfl _ 6)) ha) ?_
      refine ⟨congrArg (fun l : List Value => Ending.returned (.agg l.toArray)) ?_, hst11.sub (List.nil_sublist _)⟩
      simp at hc26 hc36
      first | omega | (simp [cmdL, hc26, hc36, opN, valS] at *; try simp [hc26, hc36])
  · skip
    refine Run.skip ?_
    refine Run.seq ?_
    refine Run.seq ?_
    refine Run.region ?_
    refine Ops.fieldAddr rfl Try.underlying30 rfl sz28 rfl ?_
    refine Ops.load rfl Try.underlying28 rfl (by first | exact hst5.cell (i := 0) rfl rfl | exact hst5.cell (i := 1) rfl rfl | exact hst5.cell (i := 2) rfl rfl | exact hst5.cell (i := 3) rfl rfl | exact hst5.cell (i := 4) rfl rfl | assumption) rfl ?_
    refine Ops.eql rfl rfl rfl ?_
    refine Ops.nil ?_
    refine Run.cond rfl (fun hc36 => ?_) (fun hc36 => ?_)
    · skip
      refine Run.region ?_
      refine Ops.move rfl rfl ?_
      first | refine Ops.quoQ rfl rfl rfl (by omega) (by omega) (wrap_u8_in (by omega) (by omega)) ?_ | refine Ops.quo rfl rfl rfl (by omega) ?_
      first | refine Ops.remI rfl rfl rfl (by omega) (by omega) ?_ | refine Ops.rem rfl rfl rfl (by omega) ?_
      first | refine Ops.addQ rfl rfl rfl (wrap_u8_in (by omega) (by omega)) ?_ | refine Ops.add rfl rfl rfl ?_
      refine Ops.buildSlice [.int .u8 (48 + b / 16 % 4)] hst5 rfl Try.underlying22 sz5 zr5 rfl rfl (by kernel_rfl) rfl (fun g12 w12 hst12 hg12 => ?_)
      refine Ops.toStr [48 + b / 16 % 4] rfl Try.underlying22 Try.underlying5 Try.underlying9 (by first | exact Rd_of_blk hst12 (i := 4) rfl rfl (by simp [Value.oneCell']) | exact Rd_of_blk hst12 (i := 3) rfl rfl (by simp [Value.oneCell'])) rfl ?_
      refine Ops.fieldAddr rfl Try.underlying30 rfl sz9 rfl ?_
      first | refine Ops.store 0 [_] hst12 rfl rfl rfl rfl sz9 rfl (by simp [Value.oneCell']) (by simp) (fun w13 hst13 => ?_) | refine Ops.store 1 [_] hst12 rfl rfl rfl rfl sz9 rfl (by simp [Value.oneCell']) (by simp) (fun w13 hst13 => ?_) | refine Ops.store 2 [_] hst12 rfl rfl rfl rfl sz9 rfl (by simp [Value.oneCell']) (by simp) (fun w13 hst13 => ?_) | refine Ops.store 3 [_] hst12 rfl rfl rfl rfl sz9 rfl (by simp [Value.oneCell']) (by simp) (fun w13 hst13 => ?_) | refine Ops.store 4 [_] hst12 rfl rfl rfl rfl sz9 rfl (by simp [Value.oneCell']) (by simp) (fun w13 hst13 => ?_)
      refine Ops.nil ?_
      refine Run.seq ?_
      refine Run.region ?_
      first | refine Ops.loadAgg _ rfl Try.underlying30 rfl sz30 rfl (hst13.cells (i := 0) rfl _ 6) rfl ?_ | refine Ops.loadAgg _ rfl Try.underlying30 rfl sz30 rfl (hst13.cells (i := 1) rfl _ 6) rfl ?_ | refine Ops.loadAgg _ rfl Try.underlying30 rfl sz30 rfl (hst13.cells (i := 2) rfl _ 6) rfl ?_ | refine Ops.loadAgg _ rfl Try.underlying30 rfl sz30 rfl (hst13.cells (i := 3) rfl _ 6) rfl ?_ | refine Ops.loadAgg _ rfl Try.underlying30 rfl sz30 rfl (hst13.cells (i := 4) rfl _ 6) rfl ?_
      first | refine Ops.store 0 _ hst13 rfl rfl rfl rfl sz30 rfl (by simp [Value.oneCell']) (by simp) (fun w14 hst14 => ?_) | refine Ops.store 1 _ hst13 rfl rfl rfl rfl sz30 rfl (by simp [Value.oneCell']) (by simp) (fun w14 hst14 => ?_) | refine Ops.store 2 _ hst13 rfl rfl rfl rfl sz30 rfl (by simp [Value.oneCell']) (by simp) (fun w14 hst14 => ?_) | refine Ops.store 3 _ hst13 rfl rfl rfl rfl sz30 rfl (by simp [Value.oneCell']) (by simp) (fun w14 hst14 => ?_) | refine Ops.store 4 _ hst13 rfl rfl rfl rfl sz30 rfl (by simp [Value.oneCell']) (by simp) (fun w14 hst14 => ?_)
      refine Ops.nil ?_
      refine Run.ret _ rfl (fun a ha => resC rfl rfl (run_loadN _ Try.underlying30 rfl sz30 rfl (by first | exact hst14.cells (i := 0) rfl _ 6 | exact hst14.cells (i := 1) rfl _ 6 | exact hst14.cells (i := 2) rfl _ 6 | exact hst14.cells (i := 3) rfl _ 6 | exact hst14.cells (i := 4) rfl _ 6)) ha) ?_
      refine ⟨congrArg (fun l : List Value => Ending.returned (.agg l.toArray)) ?_, hst14.sub (List.nil_sublist _)⟩
      simp at hc26 hc36
      first | omega | (simp [cmdL, hc26, hc36, opN, valS] at *; try simp [hc26, hc36])
    · skip
      refine Run.skip ?_
      refine Run.seq ?_
      refine Run.region ?_
      first | refine Ops.loadAgg _ rfl Try.underlying30 rfl sz30 rfl (hst5.cells (i := 0) rfl _ 6) rfl ?_ | refine Ops.loadAgg _ rfl Try.underlying30 rfl sz30 rfl (hst5.cells (i := 1) rfl _ 6) rfl ?_ | refine Ops.loadAgg _ rfl Try.underlying30 rfl sz30 rfl (hst5.cells (i := 2) rfl _ 6) rfl ?_ | refine Ops.loadAgg _ rfl Try.underlying30 rfl sz30 rfl (hst5.cells (i := 3) rfl _ 6) rfl ?_ | refine Ops.loadAgg _ rfl Try.underlying30 rfl sz30 rfl (hst5.cells (i := 4) rfl _ 6) rfl ?_
      first | refine Ops.store 0 _ hst5 rfl rfl rfl rfl sz30 rfl (by simp [Value.oneCell']) (by simp) (fun w15 hst15 => ?_) | refine Ops.store 1 _ hst5 rfl rfl rfl rfl sz30 rfl (by simp [Value.oneCell']) (by simp) (fun w15 hst15 => ?_) | refine Ops.store 2 _ hst5 rfl rfl rfl rfl sz30 rfl (by simp [Value.oneCell']) (by simp) (fun w15 hst15 => ?_) | refine Ops.store 3 _ hst5 rfl rfl rfl rfl sz30 rfl (by simp [Value.oneCell']) (by simp) (fun w15 hst15 => ?_) | refine Ops.store 4 _ hst5 rfl rfl rfl rfl sz30 rfl (by simp [Value.oneCell']) (by simp) (fun w15 hst15 => ?_)
      refine Ops.nil ?_
      refine Run.ret _ rfl (fun a ha => resC rfl rfl (run_loadN _ Try.underlying30 rfl sz30 rfl (by first | exact hst15.cells (i := 0) rfl _ 6 | exact hst15.cells (i := 1) rfl _ 6 | exact hst15.cells (i := 2) rfl _ 6 | exact hst15.cells (i := 3) rfl _ 6 | exact hst15.cells (i := 4) rfl _ 6)) ha) ?_
      refine ⟨congrArg (fun l : List Value => Ending.returned (.agg l.toArray)) ?_, hst15.sub (List.nil_sublist _)⟩
      simp at hc26 hc36
      first | omega | (simp [cmdL, hc26, hc36, opN, valS] at *; try simp [hc26, hc36])


abbrev zeroCmd : List Value := [.int .i64 0, .int .i64 0, .int .i64 0, .string ⟨#[]⟩, .string ⟨#[]⟩, .string ⟨#[]⟩]
/-- An act's eleven cells. -/
def oneL (a b c d : Int) : List Value :=
  if a % 16 = 0 then [.int .i64 0, .int .i64 (b % 3), .int .i64 0, .int .i64 0, .int .i64 0] ++ zeroCmd
  else if a % 16 < 4 then [.int .i64 1, .int .i64 (b % 3), .int .i64 0, .int .i64 0, .int .i64 0] ++ zeroCmd
  else if a % 16 < 6 then [.int .i64 2, .int .i64 (b % 3), .int .i64 0, .int .i64 0, .int .i64 0] ++ cmdL c d
  else if a % 16 < 11 then [.int .i64 3, .int .i64 0, .int .i64 b, .int .i64 0, .int .i64 0] ++ zeroCmd
  else if a % 16 = 11 then [.int .i64 4, .int .i64 0, .int .i64 b, .int .i64 0, .int .i64 0] ++ zeroCmd
  else if a % 16 = 12 then [.int .i64 5, .int .i64 0, .int .i64 b, .int .i64 0, .int .i64 0] ++ zeroCmd
  else if a % 16 = 15 then [.int .i64 7, .int .i64 (b % 3), .int .i64 (c % 24), .int .i64 d, .int .i64 0] ++ zeroCmd
  else [.int .i64 6, .int .i64 (b % 3), .int .i64 d, .int .i64 0, .int .i64 (c % 7)] ++ zeroCmd

set_option maxRecDepth 100000 in
set_option maxHeartbeats 2000000 in
theorem one_calls (s : Value) (b0 b1 b2 b3 : Int) (w : World) (h0 : 0 ≤ b0 ∧ b0 < 256) (h1 : 0 ≤ b1 ∧ b1 < 256) (h2 : 0 ≤ b2 ∧ b2 < 256) (h3 : 0 ≤ b3 ∧ b3 < 256) (hr : Rd w 1 s 4 ([b0, b1, b2, b3].map (Value.int .u8))) (hst : St w (fps []) [] w) :
    Calls Try.prog 33 #[s] w fun e w' => e = .returned (.agg (oneL b0 b1 b2 b3).toArray) ∧ St w (fps []) [] w' := by
  obtain ⟨A, c, rfl, hc, hpos⟩ := hr.shape
  obtain ⟨g, o, rfl⟩ := hpos (by omega)
  have hF : ∀ k, (Value.slice (some ⟨g, o, none⟩) 4 c).ownBlock = some k → ¬ fps [] k := fun k _ => fps_nil k
  refine calls_of_run Try.func33 rfl rfl ?_
  refine Run.seq ?_
  refine Run.region ?_
  refine Ops.alloc _ hst zr32 rfl rfl (fun g1 w1 hst1 hg1 => ?_)
  refine Ops.nil ?_
  refine Run.seq ?_
  refine Run.region ?_
  refine Ops.move rfl rfl ?_
  refine Ops.indexAddr rfl rfl Try.underlying22 sz5 rfl (by omega) (by omega) rfl rfl ?_
  refine Ops.load rfl Try.underlying5 rfl (by first | exact hst1.cell (i := 0) rfl rfl | exact hst1.cell (i := 1) rfl rfl | exact (hr.later hst1 hF).cell (j := 0) rfl | exact (hr.later hst1 hF).cell (j := 1) rfl | exact (hr.later hst1 hF).cell (j := 2) rfl | exact (hr.later hst1 hF).cell (j := 3) rfl | assumption) rfl ?_
  first | refine Ops.convQ rfl Try.underlying5 Try.underlying3 (wrap_i64_in (by omega) (by omega)) rfl ?_ | refine Ops.conv rfl Try.underlying5 Try.underlying3 rfl ?_
  first | refine Ops.remI rfl rfl rfl (by omega) (by omega) ?_ | refine Ops.rem rfl rfl rfl (by omega) ?_
  refine Ops.assign rfl rfl ?_
  refine Ops.nil ?_
  refine Run.seq ?_
  refine Run.seq ?_
  refine Run.region ?_
  refine Ops.move rfl rfl ?_
  refine Ops.indexAddr rfl rfl Try.underlying22 sz5 rfl (by omega) (by omega) rfl rfl ?_
  refine Ops.load rfl Try.underlying5 rfl (by first | exact hst1.cell (i := 0) rfl rfl | exact hst1.cell (i := 1) rfl rfl | exact (hr.later hst1 hF).cell (j := 0) rfl | exact (hr.later hst1 hF).cell (j := 1) rfl | exact (hr.later hst1 hF).cell (j := 2) rfl | exact (hr.later hst1 hF).cell (j := 3) rfl | assumption) rfl ?_
  first | refine Ops.remI rfl rfl rfl (by omega) (by omega) ?_ | refine Ops.rem rfl rfl rfl (by omega) ?_
  refine Ops.nil ?_
  refine Run.block ?_
  refine Run.seq ?_
  refine Run.region ?_
  refine Ops.eql rfl rfl rfl ?_
  refine Ops.assign rfl rfl ?_
  refine Ops.nil ?_
  refine Run.cond rfl (fun hc13 => ?_) (fun hc13 => ?_)
  · skip
    refine Run.seq ?_
    refine Run.region ?_
    refine Ops.move rfl rfl ?_
    refine Ops.build ([.int .i64 0, .int .i64 (b1 % 3), .int .i64 0, .int .i64 0, .int .i64 0] ++ zeroCmd) rfl Try.underlying32 zr32 (pl32 Try.underlying32) (by kernel_rfl) rfl ?_
    first | refine Ops.store 0 _ hst1 rfl rfl rfl rfl sz32 rfl (by simp [Value.oneCell']) (by simp) (fun w3 hst3 => ?_) | refine Ops.store 1 _ hst1 rfl rfl rfl rfl sz32 rfl (by simp [Value.oneCell']) (by simp) (fun w3 hst3 => ?_)
    refine Ops.nil ?_
    refine Run.ret _ rfl (fun a ha => resC rfl rfl (run_loadN _ Try.underlying32 rfl sz32 rfl (by first | exact hst3.cells (i := 0) rfl _ 11 | exact hst3.cells (i := 1) rfl _ 11)) ha) ?_
    refine ⟨congrArg (fun l : List Value => Ending.returned (.agg l.toArray)) ?_, hst3.sub (List.nil_sublist _)⟩
    simp only [beq_iff_eq, beq_eq_false_iff_ne, ne_eq, decide_eq_true_eq, decide_eq_false_iff_not] at *
    unfold oneL
    repeat (first | rw [if_pos (by omega)] | rw [if_neg (by omega)])
    try rfl
  · skip
    refine Run.seq ?_
    refine Run.seq ?_
    refine Run.region ?_
    refine Ops.eql rfl rfl rfl ?_
    refine Ops.assign rfl rfl ?_
    refine Ops.nil ?_
    refine Run.cut (fun e' w' => e' = [(17, .bool (decide (1 ≤ b0 % 16 ∧ b0 % 16 ≤ 3))), (0, .slice (some ⟨g, o, none⟩) 4 c), (2, .pointer (some ⟨g1, 0, none⟩)), (3, .int .i64 (b1 % 3)), (12, .int .u8 (b0 % 16))] ∧ w1 = w') ?_ ?_
    · skip
      refine Run.cond rfl (fun hc17 => ?_) (fun hc17 => ?_)
      · skip
        refine Run.skip ?_
        refine Run.re (v' := .bool (decide (1 ≤ b0 % 16 ∧ b0 % 16 ≤ 3))) 17 rfl (by congr 1; rw [Bool.eq_iff_iff]; simp at *; omega) ?_
        refine Run.sub (e' := [(17, .bool (decide (1 ≤ b0 % 16 ∧ b0 % 16 ≤ 3))), (0, .slice (some ⟨g, o, none⟩) 4 c), (2, .pointer (some ⟨g1, 0, none⟩)), (3, .int .i64 (b1 % 3)), (12, .int .u8 (b0 % 16))]) (subB_spec ⟨rfl, rfl, rfl, rfl, rfl, trivial⟩) (Run.stop ⟨rfl, rfl⟩)
      · skip
        refine Run.seq ?_
        refine Run.region ?_
        refine Ops.eql rfl rfl rfl ?_
        refine Ops.assign rfl rfl ?_
        refine Ops.nil ?_
        refine Run.cond rfl (fun hc17 => ?_) (fun hc17 => ?_)
        · skip
          refine Run.skip ?_
          refine Run.re (v' := .bool (decide (1 ≤ b0 % 16 ∧ b0 % 16 ≤ 3))) 17 rfl (by congr 1; rw [Bool.eq_iff_iff]; simp at *; omega) ?_
          refine Run.sub (e' := [(17, .bool (decide (1 ≤ b0 % 16 ∧ b0 % 16 ≤ 3))), (0, .slice (some ⟨g, o, none⟩) 4 c), (2, .pointer (some ⟨g1, 0, none⟩)), (3, .int .i64 (b1 % 3)), (12, .int .u8 (b0 % 16))]) (subB_spec ⟨rfl, rfl, rfl, rfl, rfl, trivial⟩) (Run.stop ⟨rfl, rfl⟩)
        · skip
          refine Run.region ?_
          refine Ops.eql rfl rfl rfl ?_
          refine Ops.assign rfl rfl ?_
          refine Ops.nil ?_
          refine Run.re (v' := .bool (decide (1 ≤ b0 % 16 ∧ b0 % 16 ≤ 3))) 17 rfl (by congr 1; rw [Bool.eq_iff_iff]; simp at *; omega) ?_
          refine Run.sub (e' := [(17, .bool (decide (1 ≤ b0 % 16 ∧ b0 % 16 ≤ 3))), (0, .slice (some ⟨g, o, none⟩) 4 c), (2, .pointer (some ⟨g1, 0, none⟩)), (3, .int .i64 (b1 % 3)), (12, .int .u8 (b0 % 16))]) (subB_spec ⟨rfl, rfl, rfl, rfl, rfl, trivial⟩) (Run.stop ⟨rfl, rfl⟩)
    · skip
      rintro _ _ ⟨rfl, rfl⟩
      refine Run.cond rfl (fun hc17 => ?_) (fun hc17 => ?_)
      · skip
        refine Run.seq ?_
        refine Run.region ?_
        refine Ops.move rfl rfl ?_
        refine Ops.build ([.int .i64 1, .int .i64 (b1 % 3), .int .i64 0, .int .i64 0, .int .i64 0] ++ zeroCmd) rfl Try.underlying32 zr32 (pl32 Try.underlying32) (by kernel_rfl) rfl ?_
        first | refine Ops.store 0 _ hst1 rfl rfl rfl rfl sz32 rfl (by simp [Value.oneCell']) (by simp) (fun w5 hst5 => ?_) | refine Ops.store 1 _ hst1 rfl rfl rfl rfl sz32 rfl (by simp [Value.oneCell']) (by simp) (fun w5 hst5 => ?_)
        refine Ops.nil ?_
        refine Run.ret _ rfl (fun a ha => resC rfl rfl (run_loadN _ Try.underlying32 rfl sz32 rfl (by first | exact hst5.cells (i := 0) rfl _ 11 | exact hst5.cells (i := 1) rfl _ 11)) ha) ?_
        refine ⟨congrArg (fun l : List Value => Ending.returned (.agg l.toArray)) ?_, hst5.sub (List.nil_sublist _)⟩
        simp only [beq_iff_eq, beq_eq_false_iff_ne, ne_eq, decide_eq_true_eq, decide_eq_false_iff_not] at *
        unfold oneL
        repeat (first | rw [if_pos (by omega)] | rw [if_neg (by omega)])
        try rfl
      · skip
        refine Run.seq ?_
        refine Run.seq ?_
        refine Run.region ?_
        refine Ops.eql rfl rfl rfl ?_
        refine Ops.assign rfl rfl ?_
        refine Ops.nil ?_
        refine Run.cut (fun e' w' => e' = [(23, .bool (decide (4 ≤ b0 % 16 ∧ b0 % 16 ≤ 5))), (0, .slice (some ⟨g, o, none⟩) 4 c), (2, .pointer (some ⟨g1, 0, none⟩)), (3, .int .i64 (b1 % 3)), (12, .int .u8 (b0 % 16))] ∧ w1 = w') ?_ ?_
        · skip
          refine Run.cond rfl (fun hc23 => ?_) (fun hc23 => ?_)
          · skip
            refine Run.skip ?_
            refine Run.re (v' := .bool (decide (4 ≤ b0 % 16 ∧ b0 % 16 ≤ 5))) 23 rfl (by congr 1; rw [Bool.eq_iff_iff]; simp at *; omega) ?_
            refine Run.sub (e' := [(23, .bool (decide (4 ≤ b0 % 16 ∧ b0 % 16 ≤ 5))), (0, .slice (some ⟨g, o, none⟩) 4 c), (2, .pointer (some ⟨g1, 0, none⟩)), (3, .int .i64 (b1 % 3)), (12, .int .u8 (b0 % 16))]) (subB_spec ⟨rfl, rfl, rfl, rfl, rfl, trivial⟩) (Run.stop ⟨rfl, rfl⟩)
          · skip
            refine Run.region ?_
            refine Ops.eql rfl rfl rfl ?_
            refine Ops.assign rfl rfl ?_
            refine Ops.nil ?_
            refine Run.re (v' := .bool (decide (4 ≤ b0 % 16 ∧ b0 % 16 ≤ 5))) 23 rfl (by congr 1; rw [Bool.eq_iff_iff]; simp at *; omega) ?_
            refine Run.sub (e' := [(23, .bool (decide (4 ≤ b0 % 16 ∧ b0 % 16 ≤ 5))), (0, .slice (some ⟨g, o, none⟩) 4 c), (2, .pointer (some ⟨g1, 0, none⟩)), (3, .int .i64 (b1 % 3)), (12, .int .u8 (b0 % 16))]) (subB_spec ⟨rfl, rfl, rfl, rfl, rfl, trivial⟩) (Run.stop ⟨rfl, rfl⟩)
        · skip
          rintro _ _ ⟨rfl, rfl⟩
          refine Run.cond rfl (fun hc23 => ?_) (fun hc23 => ?_)
          · skip
            refine Run.seq ?_
            refine Run.draw (fun w => Rd w 1 (.slice (some ⟨g, o, none⟩) 4 c) 4 ([b0, b1, b2, b3].map (Value.int .u8))) (some 9) (by kernel_rfl) (fun w6 hw6 => ?_)
            have hst6 := hst1.idle (drew_fr _)
            rw [← hw6] at hst6
            clear hw6
            have hS : (fun w => Rd w 1 (.slice (some ⟨g, o, none⟩) 4 c) 4 ([b0, b1, b2, b3].map (Value.int .u8))) w6 := hr.later hst6 hF
            refine Any.take 0 rfl rfl rfl rfl (by kernel_rfl) panic_body (Ex.move rfl).s hS ?_
            refine Any.take 1 rfl rfl rfl rfl (by kernel_rfl) panic_body (Ex.move rfl).s hS ?_
            refine Any.take 2 rfl rfl rfl rfl (by kernel_rfl) panic_body (Ex.indexAddr rfl rfl Try.underlying22 sz5 rfl (by omega) (by omega) rfl).s hS ?_
            refine Any.take 3 rfl rfl rfl rfl (by kernel_rfl) panic_body (ExS.load rfl Try.underlying5 rfl (fun w hS => hS.cell (j := 2) rfl)) hS ?_
            refine Any.take 4 rfl rfl rfl rfl (by kernel_rfl) panic_body (Ex.move rfl).s hS ?_
            refine Any.take 5 rfl rfl rfl rfl (by kernel_rfl) panic_body (Ex.indexAddr rfl rfl Try.underlying22 sz5 rfl (by omega) (by omega) rfl).s hS ?_
            refine Any.take 6 rfl rfl rfl rfl (by kernel_rfl) panic_body (ExS.load rfl Try.underlying5 rfl (fun w hS => hS.cell (j := 3) rfl)) hS ?_
            refine Any.one 7 (by kernel_rfl) rfl rfl (One.of_ops rfl ?_)
            refine Ops.call rfl rfl Try.func38 (by kernel_rfl) (by kernel_rfl) rfl (cmd_calls b2 b3 _ (by omega) (by omega) (by omega) (by omega) (St.nil _ _)) ?_
            rintro x wq ⟨rfl, hq⟩
            have hstq := hst6.after0 hq
            have hS := hr.later hstq hF
            refine ⟨_, rfl, Ops.stop ⟨.inr hS, ?_⟩⟩ --ST hstq
            refine Any.take 8 rfl rfl rfl rfl (by kernel_rfl) panic_body (Ex.build ([.int .i64 2, .int .i64 (b1 % 3), .int .i64 0, .int .i64 0, .int .i64 0] ++ cmdL b2 b3) rfl Try.underlying32 zr32 (pl32 Try.underlying32) (by kernel_rfl)).s hS ?_
            refine Any.one 9 (by kernel_rfl) rfl rfl (One.of_ops rfl ?_)
            refine Ops.store 0 _ hstq rfl rfl rfl rfl sz32 rfl (by simp [Value.oneCell', cmdL]) (by simp [cmdL]) (fun wz hstz => Ops.stop ⟨.inl rfl, ?_⟩) --ST hstz
            refine Any.done (by kernel_rfl) ?_
            refine Run.ret _ rfl (fun a ha => resC rfl rfl (run_loadN _ Try.underlying32 rfl sz32 rfl (by first | exact hstz.cells (i := 0) rfl _ 11 | exact hstz.cells (i := 1) rfl _ 11)) ha) ?_
            refine ⟨congrArg (fun l : List Value => Ending.returned (.agg l.toArray)) ?_, hstz.sub (List.nil_sublist _)⟩
            simp only [beq_iff_eq, beq_eq_false_iff_ne, ne_eq, decide_eq_true_eq, decide_eq_false_iff_not] at *
            unfold oneL
            repeat (first | rw [if_pos (by omega)] | rw [if_neg (by omega)])
            try rfl
          · skip
            refine Run.seq ?_
            refine Run.seq ?_
            refine Run.region ?_
            refine Ops.eql rfl rfl rfl ?_
            refine Ops.assign rfl rfl ?_
            refine Ops.nil ?_
            refine Run.cut (fun e' w' => e' = [(35, .bool (decide (6 ≤ b0 % 16 ∧ b0 % 16 ≤ 10))), (0, .slice (some ⟨g, o, none⟩) 4 c), (2, .pointer (some ⟨g1, 0, none⟩)), (3, .int .i64 (b1 % 3)), (12, .int .u8 (b0 % 16))] ∧ w1 = w') ?_ ?_
            · skip
              refine Run.cond rfl (fun hc35 => ?_) (fun hc35 => ?_)
              · skip
                refine Run.skip ?_
                refine Run.re (v' := .bool (decide (6 ≤ b0 % 16 ∧ b0 % 16 ≤ 10))) 35 rfl (by congr 1; rw [Bool.eq_iff_iff]; simp at *; omega) ?_
                refine Run.sub (e' := [(35, .bool (decide (6 ≤ b0 % 16 ∧ b0 % 16 ≤ 10))), (0, .slice (some ⟨g, o, none⟩) 4 c), (2, .pointer (some ⟨g1, 0, none⟩)), (3, .int .i64 (b1 % 3)), (12, .int .u8 (b0 % 16))]) (subB_spec ⟨rfl, rfl, rfl, rfl, rfl, trivial⟩) (Run.stop ⟨rfl, rfl⟩)
              · skip
                refine Run.seq ?_
                refine Run.region ?_
                refine Ops.eql rfl rfl rfl ?_
                refine Ops.assign rfl rfl ?_
                refine Ops.nil ?_
                refine Run.cond rfl (fun hc35 => ?_) (fun hc35 => ?_)
                · skip
                  refine Run.skip ?_
                  refine Run.re (v' := .bool (decide (6 ≤ b0 % 16 ∧ b0 % 16 ≤ 10))) 35 rfl (by congr 1; rw [Bool.eq_iff_iff]; simp at *; omega) ?_
                  refine Run.sub (e' := [(35, .bool (decide (6 ≤ b0 % 16 ∧ b0 % 16 ≤ 10))), (0, .slice (some ⟨g, o, none⟩) 4 c), (2, .pointer (some ⟨g1, 0, none⟩)), (3, .int .i64 (b1 % 3)), (12, .int .u8 (b0 % 16))]) (subB_spec ⟨rfl, rfl, rfl, rfl, rfl, trivial⟩) (Run.stop ⟨rfl, rfl⟩)
                · skip
                  refine Run.seq ?_
                  refine Run.region ?_
                  refine Ops.eql rfl rfl rfl ?_
                  refine Ops.assign rfl rfl ?_
                  refine Ops.nil ?_
                  refine Run.cond rfl (fun hc35 => ?_) (fun hc35 => ?_)
                  · skip
                    refine Run.skip ?_
                    refine Run.re (v' := .bool (decide (6 ≤ b0 % 16 ∧ b0 % 16 ≤ 10))) 35 rfl (by congr 1; rw [Bool.eq_iff_iff]; simp at *; omega) ?_
                    refine Run.sub (e' := [(35, .bool (decide (6 ≤ b0 % 16 ∧ b0 % 16 ≤ 10))), (0, .slice (some ⟨g, o, none⟩) 4 c), (2, .pointer (some ⟨g1, 0, none⟩)), (3, .int .i64 (b1 % 3)), (12, .int .u8 (b0 % 16))]) (subB_spec ⟨rfl, rfl, rfl, rfl, rfl, trivial⟩) (Run.stop ⟨rfl, rfl⟩)
                  · skip
                    refine Run.seq ?_
                    refine Run.region ?_
                    refine Ops.eql rfl rfl rfl ?_
                    refine Ops.assign rfl rfl ?_
                    refine Ops.nil ?_
                    refine Run.cond rfl (fun hc35 => ?_) (fun hc35 => ?_)
                    · skip
                      refine Run.skip ?_
                      refine Run.re (v' := .bool (decide (6 ≤ b0 % 16 ∧ b0 % 16 ≤ 10))) 35 rfl (by congr 1; rw [Bool.eq_iff_iff]; simp at *; omega) ?_
                      refine Run.sub (e' := [(35, .bool (decide (6 ≤ b0 % 16 ∧ b0 % 16 ≤ 10))), (0, .slice (some ⟨g, o, none⟩) 4 c), (2, .pointer (some ⟨g1, 0, none⟩)), (3, .int .i64 (b1 % 3)), (12, .int .u8 (b0 % 16))]) (subB_spec ⟨rfl, rfl, rfl, rfl, rfl, trivial⟩) (Run.stop ⟨rfl, rfl⟩)
                    · skip
                      refine Run.region ?_
                      refine Ops.eql rfl rfl rfl ?_
                      refine Ops.assign rfl rfl ?_
                      refine Ops.nil ?_
                      refine Run.re (v' := .bool (decide (6 ≤ b0 % 16 ∧ b0 % 16 ≤ 10))) 35 rfl (by congr 1; rw [Bool.eq_iff_iff]; simp at *; omega) ?_
                      refine Run.sub (e' := [(35, .bool (decide (6 ≤ b0 % 16 ∧ b0 % 16 ≤ 10))), (0, .slice (some ⟨g, o, none⟩) 4 c), (2, .pointer (some ⟨g1, 0, none⟩)), (3, .int .i64 (b1 % 3)), (12, .int .u8 (b0 % 16))]) (subB_spec ⟨rfl, rfl, rfl, rfl, rfl, trivial⟩) (Run.stop ⟨rfl, rfl⟩)
            · skip
              rintro _ _ ⟨rfl, rfl⟩
              refine Run.cond rfl (fun hc35 => ?_) (fun hc35 => ?_)
              · skip
                refine Run.seq ?_
                refine Run.region ?_
                refine Ops.move rfl rfl ?_
                refine Ops.indexAddr rfl rfl Try.underlying22 sz5 rfl (by omega) (by omega) rfl rfl ?_
                refine Ops.load rfl Try.underlying5 rfl (by first | exact hst1.cell (i := 0) rfl rfl | exact hst1.cell (i := 1) rfl rfl | exact (hr.later hst1 hF).cell (j := 0) rfl | exact (hr.later hst1 hF).cell (j := 1) rfl | exact (hr.later hst1 hF).cell (j := 2) rfl | exact (hr.later hst1 hF).cell (j := 3) rfl | assumption) rfl ?_
                first | refine Ops.convQ rfl Try.underlying5 Try.underlying3 (wrap_i64_in (by omega) (by omega)) rfl ?_ | refine Ops.conv rfl Try.underlying5 Try.underlying3 rfl ?_
                refine Ops.build ([.int .i64 3, .int .i64 0, .int .i64 b1, .int .i64 0, .int .i64 0] ++ zeroCmd) rfl Try.underlying32 zr32 (pl32 Try.underlying32) (by kernel_rfl) rfl ?_
                first | refine Ops.store 0 _ hst1 rfl rfl rfl rfl sz32 rfl (by simp [Value.oneCell']) (by simp) (fun w8 hst8 => ?_) | refine Ops.store 1 _ hst1 rfl rfl rfl rfl sz32 rfl (by simp [Value.oneCell']) (by simp) (fun w8 hst8 => ?_)
                refine Ops.nil ?_
                refine Run.ret _ rfl (fun a ha => resC rfl rfl (run_loadN _ Try.underlying32 rfl sz32 rfl (by first | exact hst8.cells (i := 0) rfl _ 11 | exact hst8.cells (i := 1) rfl _ 11)) ha) ?_
                refine ⟨congrArg (fun l : List Value => Ending.returned (.agg l.toArray)) ?_, hst8.sub (List.nil_sublist _)⟩
                simp only [beq_iff_eq, beq_eq_false_iff_ne, ne_eq, decide_eq_true_eq, decide_eq_false_iff_not] at *
                unfold oneL
                repeat (first | rw [if_pos (by omega)] | rw [if_neg (by omega)])
                try rfl
              · skip
                refine Run.seq ?_
                refine Run.region ?_
                refine Ops.eql rfl rfl rfl ?_
                refine Ops.assign rfl rfl ?_
                refine Ops.nil ?_
                refine Run.cond rfl (fun hc46 => ?_) (fun hc46 => ?_)
                · skip
                  refine Run.seq ?_
                  refine Run.region ?_
                  refine Ops.move rfl rfl ?_
                  refine Ops.indexAddr rfl rfl Try.underlying22 sz5 rfl (by omega) (by omega) rfl rfl ?_
                  refine Ops.load rfl Try.underlying5 rfl (by first | exact hst1.cell (i := 0) rfl rfl | exact hst1.cell (i := 1) rfl rfl | exact (hr.later hst1 hF).cell (j := 0) rfl | exact (hr.later hst1 hF).cell (j := 1) rfl | exact (hr.later hst1 hF).cell (j := 2) rfl | exact (hr.later hst1 hF).cell (j := 3) rfl | assumption) rfl ?_
                  first | refine Ops.convQ rfl Try.underlying5 Try.underlying3 (wrap_i64_in (by omega) (by omega)) rfl ?_ | refine Ops.conv rfl Try.underlying5 Try.underlying3 rfl ?_
                  refine Ops.build ([.int .i64 4, .int .i64 0, .int .i64 b1, .int .i64 0, .int .i64 0] ++ zeroCmd) rfl Try.underlying32 zr32 (pl32 Try.underlying32) (by kernel_rfl) rfl ?_
                  first | refine Ops.store 0 _ hst1 rfl rfl rfl rfl sz32 rfl (by simp [Value.oneCell']) (by simp) (fun w10 hst10 => ?_) | refine Ops.store 1 _ hst1 rfl rfl rfl rfl sz32 rfl (by simp [Value.oneCell']) (by simp) (fun w10 hst10 => ?_)
                  refine Ops.nil ?_
                  refine Run.ret _ rfl (fun a ha => resC rfl rfl (run_loadN _ Try.underlying32 rfl sz32 rfl (by first | exact hst10.cells (i := 0) rfl _ 11 | exact hst10.cells (i := 1) rfl _ 11)) ha) ?_
                  refine ⟨congrArg (fun l : List Value => Ending.returned (.agg l.toArray)) ?_, hst10.sub (List.nil_sublist _)⟩
                  simp only [beq_iff_eq, beq_eq_false_iff_ne, ne_eq, decide_eq_true_eq, decide_eq_false_iff_not] at *
                  unfold oneL
                  repeat (first | rw [if_pos (by omega)] | rw [if_neg (by omega)])
                  try rfl
                · skip
                  refine Run.seq ?_
                  refine Run.region ?_
                  refine Ops.eql rfl rfl rfl ?_
                  refine Ops.assign rfl rfl ?_
                  refine Ops.nil ?_
                  refine Run.cond rfl (fun hc53 => ?_) (fun hc53 => ?_)
                  · skip
                    refine Run.seq ?_
                    refine Run.region ?_
                    refine Ops.move rfl rfl ?_
                    refine Ops.indexAddr rfl rfl Try.underlying22 sz5 rfl (by omega) (by omega) rfl rfl ?_
                    refine Ops.load rfl Try.underlying5 rfl (by first | exact hst1.cell (i := 0) rfl rfl | exact hst1.cell (i := 1) rfl rfl | exact (hr.later hst1 hF).cell (j := 0) rfl | exact (hr.later hst1 hF).cell (j := 1) rfl | exact (hr.later hst1 hF).cell (j := 2) rfl | exact (hr.later hst1 hF).cell (j := 3) rfl | assumption) rfl ?_
                    first | refine Ops.convQ rfl Try.underlying5 Try.underlying3 (wrap_i64_in (by omega) (by omega)) rfl ?_ | refine Ops.conv rfl Try.underlying5 Try.underlying3 rfl ?_
                    refine Ops.build ([.int .i64 5, .int .i64 0, .int .i64 b1, .int .i64 0, .int .i64 0] ++ zeroCmd) rfl Try.underlying32 zr32 (pl32 Try.underlying32) (by kernel_rfl) rfl ?_
                    first | refine Ops.store 0 _ hst1 rfl rfl rfl rfl sz32 rfl (by simp [Value.oneCell']) (by simp) (fun w12 hst12 => ?_) | refine Ops.store 1 _ hst1 rfl rfl rfl rfl sz32 rfl (by simp [Value.oneCell']) (by simp) (fun w12 hst12 => ?_)
                    refine Ops.nil ?_
                    refine Run.ret _ rfl (fun a ha => resC rfl rfl (run_loadN _ Try.underlying32 rfl sz32 rfl (by first | exact hst12.cells (i := 0) rfl _ 11 | exact hst12.cells (i := 1) rfl _ 11)) ha) ?_
                    refine ⟨congrArg (fun l : List Value => Ending.returned (.agg l.toArray)) ?_, hst12.sub (List.nil_sublist _)⟩
                    simp only [beq_iff_eq, beq_eq_false_iff_ne, ne_eq, decide_eq_true_eq, decide_eq_false_iff_not] at *
                    unfold oneL
                    repeat (first | rw [if_pos (by omega)] | rw [if_neg (by omega)])
                    try rfl
                  · skip
                    refine Run.seq ?_
                    refine Run.region ?_
                    refine Ops.eql rfl rfl rfl ?_
                    refine Ops.assign rfl rfl ?_
                    refine Ops.nil ?_
                    refine Run.cond rfl (fun hc60 => ?_) (fun hc60 => ?_)
                    · skip
                      refine Run.seq ?_
                      refine Run.draw (fun w => Rd w 1 (.slice (some ⟨g, o, none⟩) 4 c) 4 ([b0, b1, b2, b3].map (Value.int .u8))) (some 11) (by kernel_rfl) (fun w13 hw13 => ?_)
                      have hst13 := hst1.idle (drew_fr _)
                      rw [← hw13] at hst13
                      clear hw13
                      have hS : (fun w => Rd w 1 (.slice (some ⟨g, o, none⟩) 4 c) 4 ([b0, b1, b2, b3].map (Value.int .u8))) w13 := hr.later hst13 hF
                      refine Any.take 0 rfl rfl rfl rfl (by kernel_rfl) panic_body (Ex.move rfl).s hS ?_
                      refine Any.take 1 rfl rfl rfl rfl (by kernel_rfl) panic_body (Ex.move rfl).s hS ?_
                      refine Any.take 2 rfl rfl rfl rfl (by kernel_rfl) panic_body (Ex.indexAddr rfl rfl Try.underlying22 sz5 rfl (by omega) (by omega) rfl).s hS ?_
                      refine Any.take 3 rfl rfl rfl rfl (by kernel_rfl) panic_body (ExS.load rfl Try.underlying5 rfl (fun w hS => hS.cell (j := 2) rfl)) hS ?_
                      first | refine Any.take 4 rfl rfl rfl rfl (by kernel_rfl) panic_body (Ex.convQ rfl Try.underlying5 Try.underlying3 (wrap_i64_in (by omega) (by omega))).s hS ?_ | refine Any.take 4 rfl rfl rfl rfl (by kernel_rfl) panic_body (Ex.conv rfl Try.underlying5 Try.underlying3).s hS ?_
                      first | refine Any.take 5 rfl rfl rfl rfl (by kernel_rfl) panic_body (Ex.remI rfl rfl  (by omega) (by omega)).s hS ?_ | refine Any.take 5 rfl rfl rfl rfl (by kernel_rfl) panic_body (Ex.rem rfl rfl  (by omega)).s hS ?_
                      refine Any.take 6 rfl rfl rfl rfl (by kernel_rfl) panic_body (Ex.move rfl).s hS ?_
                      refine Any.take 7 rfl rfl rfl rfl (by kernel_rfl) panic_body (Ex.indexAddr rfl rfl Try.underlying22 sz5 rfl (by omega) (by omega) rfl).s hS ?_
                      refine Any.take 8 rfl rfl rfl rfl (by kernel_rfl) panic_body (ExS.load rfl Try.underlying5 rfl (fun w hS => hS.cell (j := 3) rfl)) hS ?_
                      first | refine Any.take 9 rfl rfl rfl rfl (by kernel_rfl) panic_body (Ex.convQ rfl Try.underlying5 Try.underlying3 (wrap_i64_in (by omega) (by omega))).s hS ?_ | refine Any.take 9 rfl rfl rfl rfl (by kernel_rfl) panic_body (Ex.conv rfl Try.underlying5 Try.underlying3).s hS ?_
                      refine Any.take 10 rfl rfl rfl rfl (by kernel_rfl) panic_body (Ex.build ([.int .i64 7, .int .i64 (b1 % 3), .int .i64 (b2 % 24), .int .i64 b3, .int .i64 0] ++ zeroCmd) rfl Try.underlying32 zr32 (pl32 Try.underlying32) (by kernel_rfl)).s hS ?_
                      refine Any.one 11 (by kernel_rfl) rfl rfl (One.of_ops rfl ?_)
                      first | refine Ops.store 0 _ hst13 rfl rfl rfl rfl sz32 rfl (by simp [Value.oneCell']) (by simp) (fun w14 hst14 => Ops.stop ⟨.inl rfl, ?_⟩) | refine Ops.store 1 _ hst13 rfl rfl rfl rfl sz32 rfl (by simp [Value.oneCell']) (by simp) (fun w14 hst14 => Ops.stop ⟨.inl rfl, ?_⟩)
                      refine Any.done (by kernel_rfl) ?_
                      refine Run.ret _ rfl (fun a ha => resC rfl rfl (run_loadN _ Try.underlying32 rfl sz32 rfl (by first | exact hst14.cells (i := 0) rfl _ 11 | exact hst14.cells (i := 1) rfl _ 11)) ha) ?_
                      refine ⟨congrArg (fun l : List Value => Ending.returned (.agg l.toArray)) ?_, hst14.sub (List.nil_sublist _)⟩
                      simp only [beq_iff_eq, beq_eq_false_iff_ne, ne_eq, decide_eq_true_eq, decide_eq_false_iff_not] at *
                      unfold oneL
                      repeat (first | rw [if_pos (by omega)] | rw [if_neg (by omega)])
                      try rfl
                    · skip
                      refine Run.skip ?_
                      refine Run.endBlk ?_
                      refine Run.seq ?_
                      refine Run.draw (fun w => Rd w 1 (.slice (some ⟨g, o, none⟩) 4 c) 4 ([b0, b1, b2, b3].map (Value.int .u8))) (some 11) (by kernel_rfl) (fun w15 hw15 => ?_)
                      have hst15 := hst1.idle (drew_fr _)
                      rw [← hw15] at hst15
                      clear hw15
                      have hS : (fun w => Rd w 1 (.slice (some ⟨g, o, none⟩) 4 c) 4 ([b0, b1, b2, b3].map (Value.int .u8))) w15 := hr.later hst15 hF
                      refine Any.take 0 rfl rfl rfl rfl (by kernel_rfl) panic_body (Ex.move rfl).s hS ?_
                      refine Any.take 1 rfl rfl rfl rfl (by kernel_rfl) panic_body (Ex.move rfl).s hS ?_
                      refine Any.take 2 rfl rfl rfl rfl (by kernel_rfl) panic_body (Ex.indexAddr rfl rfl Try.underlying22 sz5 rfl (by omega) (by omega) rfl).s hS ?_
                      refine Any.take 3 rfl rfl rfl rfl (by kernel_rfl) panic_body (ExS.load rfl Try.underlying5 rfl (fun w hS => hS.cell (j := 2) rfl)) hS ?_
                      first | refine Any.take 4 rfl rfl rfl rfl (by kernel_rfl) panic_body (Ex.convQ rfl Try.underlying5 Try.underlying27 (wrap_i64_in (by omega) (by omega))).s hS ?_ | refine Any.take 4 rfl rfl rfl rfl (by kernel_rfl) panic_body (Ex.conv rfl Try.underlying5 Try.underlying27).s hS ?_
                      first | refine Any.take 5 rfl rfl rfl rfl (by kernel_rfl) panic_body (Ex.remI rfl rfl  (by omega) (by omega)).s hS ?_ | refine Any.take 5 rfl rfl rfl rfl (by kernel_rfl) panic_body (Ex.rem rfl rfl  (by omega)).s hS ?_
                      refine Any.take 6 rfl rfl rfl rfl (by kernel_rfl) panic_body (Ex.move rfl).s hS ?_
                      refine Any.take 7 rfl rfl rfl rfl (by kernel_rfl) panic_body (Ex.indexAddr rfl rfl Try.underlying22 sz5 rfl (by omega) (by omega) rfl).s hS ?_
                      refine Any.take 8 rfl rfl rfl rfl (by kernel_rfl) panic_body (ExS.load rfl Try.underlying5 rfl (fun w hS => hS.cell (j := 3) rfl)) hS ?_
                      first | refine Any.take 9 rfl rfl rfl rfl (by kernel_rfl) panic_body (Ex.convQ rfl Try.underlying5 Try.underlying3 (wrap_i64_in (by omega) (by omega))).s hS ?_ | refine Any.take 9 rfl rfl rfl rfl (by kernel_rfl) panic_body (Ex.conv rfl Try.underlying5 Try.underlying3).s hS ?_
                      refine Any.take 10 rfl rfl rfl rfl (by kernel_rfl) panic_body (Ex.build ([.int .i64 6, .int .i64 (b1 % 3), .int .i64 b3, .int .i64 0, .int .i64 (b2 % 7)] ++ zeroCmd) rfl Try.underlying32 zr32 (pl32 Try.underlying32) (by kernel_rfl)).s hS ?_
                      refine Any.one 11 (by kernel_rfl) rfl rfl (One.of_ops rfl ?_)
                      first | refine Ops.store 0 _ hst15 rfl rfl rfl rfl sz32 rfl (by simp [Value.oneCell']) (by simp) (fun w16 hst16 => Ops.stop ⟨.inl rfl, ?_⟩) | refine Ops.store 1 _ hst15 rfl rfl rfl rfl sz32 rfl (by simp [Value.oneCell']) (by simp) (fun w16 hst16 => Ops.stop ⟨.inl rfl, ?_⟩)
                      refine Any.done (by kernel_rfl) ?_
                      refine Run.ret _ rfl (fun a ha => resC rfl rfl (run_loadN _ Try.underlying32 rfl sz32 rfl (by first | exact hst16.cells (i := 0) rfl _ 11 | exact hst16.cells (i := 1) rfl _ 11)) ha) ?_
                      refine ⟨congrArg (fun l : List Value => Ending.returned (.agg l.toArray)) ?_, hst16.sub (List.nil_sublist _)⟩
                      simp only [beq_iff_eq, beq_eq_false_iff_ne, ne_eq, decide_eq_true_eq, decide_eq_false_iff_not] at *
                      unfold oneL
                      repeat (first | rw [if_pos (by omega)] | rw [if_neg (by omega)])
                      try rfl


def oneAt (l : List Int) : List Value := oneL (l.getD 0 0) (l.getD 1 0) (l.getD 2 0) (l.getD 3 0)
/-- The cells of the first n acts of bytes. -/
def actsL (n : Nat) (l : List Int) : List Value := ((List.range n).map fun i => oneAt (l.drop (4 * i))).flatten
theorem actsL_succ (n : Nat) (l : List Int) : actsL (n + 1) l = actsL n l ++ oneAt (l.drop (4 * n)) := by
  simp [actsL, List.range_succ]
theorem oneL_form (a b c d : Int) : ∃ x0 x1 x2 x3 x4 x5 x6 x7 x8 x9 x10 : Value, oneL a b c d = [x0, x1, x2, x3, x4, x5, x6, x7, x8, x9, x10] ∧ ∀ u ∈ [x0, x1, x2, x3, x4, x5, x6, x7, x8, x9, x10], u.oneCell' = true := by
  unfold oneL cmdL
  split
  · exact ⟨_, _, _, _, _, _, _, _, _, _, _, rfl, by simp [Value.oneCell']⟩
  split
  · exact ⟨_, _, _, _, _, _, _, _, _, _, _, rfl, by simp [Value.oneCell']⟩
  split
  · exact ⟨_, _, _, _, _, _, _, _, _, _, _, rfl, by simp [Value.oneCell']⟩
  split
  · exact ⟨_, _, _, _, _, _, _, _, _, _, _, rfl, by simp [Value.oneCell']⟩
  split
  · exact ⟨_, _, _, _, _, _, _, _, _, _, _, rfl, by simp [Value.oneCell']⟩
  split
  · exact ⟨_, _, _, _, _, _, _, _, _, _, _, rfl, by simp [Value.oneCell']⟩
  split
  · exact ⟨_, _, _, _, _, _, _, _, _, _, _, rfl, by simp [Value.oneCell']⟩
  · exact ⟨_, _, _, _, _, _, _, _, _, _, _, rfl, by simp [Value.oneCell']⟩
def Bytes (l : List Int) : Prop := ∀ x ∈ l, 0 ≤ x ∧ x < 256
theorem four_of {l : List Int} (h : 4 ≤ l.length) : ∃ b0 b1 b2 b3 r, l = b0 :: b1 :: b2 :: b3 :: r := by
  match l, h with
  | b0 :: b1 :: b2 :: b3 :: r, _ => exact ⟨b0, b1, b2, b3, r, rfl⟩

set_option maxRecDepth 100000 in
set_option maxHeartbeats 2000000 in
theorem acts_calls (s : Value) (bs : List Int) (w : World) (hb : Bytes bs) (hm : bs.length ≤ 4194304) (hr : Rd w 1 s bs.length (bs.map (Value.int .u8))) (hst : St w (fps []) [] w) :
    Calls Try.prog 14 #[s] w fun e w' => ∃ v, e = .returned v ∧ St w (fps []) [orow 32 11 v (bs.length / 4) (actsL (bs.length / 4) bs)] w' := by
  obtain ⟨A, c, rfl, hc, hpos⟩ := hr.shape
  refine calls_of_run Try.func14 rfl rfl ?_
  refine Run.seq ?_
  refine Run.region ?_
  refine Ops.assign rfl rfl ?_
  refine Ops.nil ?_
  refine Run.seq ?_
  refine Run.region ?_
  refine Ops.assign rfl rfl ?_
  refine Ops.nil ?_
  refine Run.seq ?_
  refine Run.block ?_
  refine Run.sub (e' := [(0, .slice A bs.length c), (3, .slice none 0 0)]) (subB_spec ⟨rfl, rfl, trivial⟩) ?_
  refine Run.loop (fun fuel e' w' => ∃ (i : Nat) (A' : Option Addr) (c' : Nat) (v : Value), e' = [(0, .slice A' (bs.length - 4 * i) c'), (3, v)] ∧ 4 * i ≤ bs.length ∧ fuel = bs.length / 4 - i ∧ Rd w 1 (.slice A' (bs.length - 4 * i) c') (bs.length - 4 * i) ((bs.drop (4 * i)).map (Value.int .u8)) ∧ St w (fps []) [orow 32 11 v i (actsL i bs)] w') (bs.length / 4) ⟨0, A, c, .slice none 0 0, rfl, by omega, by omega, by simpa using hr, hst.push (Fr.refl _ _) (own_nil 32 11 _) (fun k hk => by cases hk)⟩ ?_
  rintro fuel e' w1 ⟨i, A', c', v, rfl, hi, rfl, hr1, hst1⟩
  have hc' := (hr1.shape).elim fun _ ⟨c2, h2, h3, _⟩ => (by cases h2; exact h3 : bs.length - 4 * i ≤ c')
  have hmx : bs.length ≤ maxLen := by simp only [maxLen]; omega --ST hst1
  refine Run.seq ?_
  refine Run.seq ?_
  refine Run.region ?_
  refine Ops.move rfl rfl ?_
  refine Ops.len rfl rfl rfl Try.underlying22 rfl ?_
  refine Ops.geq rfl rfl rfl ?_
  refine Ops.nil ?_
  refine Run.cond rfl (fun hc6 => ?_) (fun hc6 => ?_)
  · skip
    have h4 : 4 ≤ bs.length - 4 * i := by have := of_decide_eq_true hc6; omega
    obtain ⟨b0, b1, b2, b3, r, hbr⟩ := four_of (l := bs.drop (4 * i)) (by simp; omega)
    have hbb : ∀ x ∈ b0 :: b1 :: b2 :: b3 :: r, 0 ≤ x ∧ x < 256 := fun x hx => hb x (List.mem_of_mem_drop (hbr ▸ hx))
    obtain ⟨x0, x1, x2, x3, x4, x5, x6, x7, x8, x9, x10, hone, hcell⟩ := oneL_form b0 b1 b2 b3
    have hoat : oneAt (bs.drop (4 * i)) = [x0, x1, x2, x3, x4, x5, x6, x7, x8, x9, x10] := by rw [hbr]; exact hone
    obtain ⟨A1, hA1⟩ : ∃ A1, A1 = (if c' = (0 : Int).toNat then A' else A'.map (·.add ((0 : Int).toNat * 1))) := ⟨_, rfl⟩
    have hr4 := hr1.sub 0 4 c' (by omega) h4 (by omega) A1 (by rw [hA1]; by_cases hz : c' = (0 : Int).toNat; (exfalso; simp at hz; omega); (rw [if_neg hz]; exact .inl rfl))
    rw [hbr] at hr4
    refine Run.skip ?_
    refine Run.block ?_
    refine Run.seq ?_
    refine Run.region ?_
    refine Ops.move rfl rfl ?_
    refine Ops.move rfl rfl ?_
    refine Ops.cut (i := 0) (j := 4) rfl Try.underlying22 sz5 rfl rfl (by omega) (by omega) (by omega) rfl ?_
    rw [← hA1]
    refine Ops.call rfl rfl Try.func33 (by kernel_rfl) (by kernel_rfl) rfl (one_calls _ b0 b1 b2 b3 _ (hbb _ (by simp)) (hbb _ (by simp)) (hbb _ (by simp)) (hbb _ (by simp)) (Rd.later hr4 hst1 (fun k _ => fps_nil k)) (St.nil _ _)) ?_
    rintro x w2 ⟨he, hq⟩
    rw [hone] at he
    subst he
    have hst2 := hst1.after0 hq
    refine ⟨_, rfl, ?_⟩ --ST hst2
    refine Ops.buildSlice [x0, x1, x2, x3, x4, x5, x6, x7, x8, x9, x10] hst2 rfl Try.underlying24 sz32 zr32 rfl rfl (by kernel_rfl) rfl (fun g1 w1 hst1 hg1 => ?_)
    refine Ops.append 0 hst1 rfl rfl rfl rfl rfl Try.underlying24 inf32 rfl (by omega) (Rd_of_blk (m := 1) hst1 (i := 1) rfl rfl hcell) (by omega) (by omega) rfl (fun v' w3 hst3 hnil => ?_) --ST hst3
    refine Ops.assign rfl rfl ?_
    refine Ops.nil ?_
    refine Run.region ?_
    refine Ops.move rfl rfl ?_
    obtain ⟨A2, hA2⟩ : ∃ A2, A2 = (if c' = (4 : Int).toNat then A' else A'.map (·.add ((4 : Int).toNat * 1))) := ⟨_, rfl⟩
    refine Ops.cut (i := 4) (j := ((bs.length - 4 * i : Nat) : Int)) rfl Try.underlying22 sz5 rfl rfl (by omega) (by omega) (by omega) rfl ?_
    rw [← hA2]
    refine Ops.assign rfl rfl ?_
    refine Ops.nil ?_
    refine Run.endBlk ?_
    have hr5 := hr1.sub 4 (bs.length - 4 * i) (c' - 4) h4 (Nat.le_refl _) (by omega) A2 (by rw [hA2]; by_cases hz : c' = (4 : Int).toNat; (rw [if_pos hz]; exact .inr ⟨rfl, by simp at hz; omega⟩); (rw [if_neg hz]; exact .inl rfl))
    have h6 : St w (fps []) [orow 32 11 v' (i + 1) (actsL i bs ++ [x0, x1, x2, x3, x4, x5, x6, x7, x8, x9, x10])] w3 := hst3.sub (List.Sublist.cons_cons _ (List.nil_sublist _))
    rw [← hoat, ← actsL_succ] at h6
    refine Run.sub (e' := [(0, .slice A2 (bs.length - 4 * (i + 1)) (c' - 4)), (3, v')]) (subB_spec ⟨?_, rfl, trivial⟩) (Run.stop ⟨bs.length / 4 - (i + 1), by omega, i + 1, A2, c' - 4, v', rfl, by omega, rfl, ?_, h6⟩)
    · show some (Value.slice A2 _ _) = _
      congr 2
    · have e1 : bs.length - 4 * i - 4 = bs.length - 4 * (i + 1) := by omega
      rw [e1] at hr5
      rw [← List.map_drop, ← List.map_take, List.drop_drop] at hr5
      have e2 : 4 * i + 4 * 1 = 4 * (i + 1) := by omega
      rw [e2, List.take_of_length_le (by simp)] at hr5
      exact hr5
  · skip
    have h4 : bs.length / 4 = i := by simp at hc6; omega
    refine Run.exit _ rfl ?_
    refine Run.seq ?_
    refine Run.region ?_
    refine Ops.move rfl rfl ?_
    refine Ops.assign rfl rfl ?_
    refine Ops.nil ?_
    refine Run.ret _ rfl (fun a ha => res1 rfl rfl ha) ?_
    rw [h4]
    exact ⟨_, rfl, hst1⟩

end Go.Proofs.Ytiijlkebolfcpaa.Script
