/- Script: walks. -/
import Derived.Test.YtiijlkebolfcpaaScript5
namespace Go.Proofs.Ytiijlkebolfcpaa.Script6
open Go Go.RowKit Go.Proofs.Ytiijlkebolfcpaa.Sx Go.Proofs.Ytiijlkebolfcpaa.Script Go.Proofs.Ytiijlkebolfcpaa.Script2 Go.Proofs.Ytiijlkebolfcpaa.Script3 Go.Proofs.Ytiijlkebolfcpaa.Script4 Go.Proofs.Ytiijlkebolfcpaa.Script5
set_option linter.unusedVariables false
set_option linter.unusedSimpArgs false
theorem sz1 : (Try.prog.info? 1).map (·.size) = some 1 := by kernel_rfl
theorem sz5 : (Try.prog.info? 5).map (·.size) = some 1 := by kernel_rfl
theorem sz9 : (Try.prog.info? 9).map (·.size) = some 1 := by kernel_rfl
theorem sz28 : (Try.prog.info? 28).map (·.size) = some 1 := by kernel_rfl
theorem sz30 : (Try.prog.info? 30).map (·.size) = some 6 := by kernel_rfl
theorem sz32 : (Try.prog.info? 32).map (·.size) = some 11 := by kernel_rfl
theorem eqr30 (d : Nat) (x0 : Int) (x1 : Int) (x2 : Int) (x3 : ByteArray) (x4 : ByteArray) (x5 : ByteArray) : EqR Try.prog (d + 2) 30 (.agg #[.int .i64 x0, .int .i64 x1, .int .i64 x2, .string x3, .string x4, .string x5]) :=
  EqR.agg Try.underlying30 (by kernel_rfl) ⟨⟨_, fun w => rfl, EqR.int Try.underlying28⟩, ⟨_, fun w => rfl, EqR.int Try.underlying3⟩, ⟨_, fun w => rfl, EqR.int Try.underlying3⟩, ⟨_, fun w => rfl, EqR.str Try.underlying9⟩, ⟨_, fun w => rfl, EqR.str Try.underlying9⟩, ⟨_, fun w => rfl, EqR.str Try.underlying9⟩, trivial⟩
theorem eqr32 (d : Nat) (x0 : Int) (x1 : Int) (x2 : Int) (x3 : Int) (x4 : Int) (x5 : Int) (x6 : Int) (x7 : Int) (x8 : ByteArray) (x9 : ByteArray) (x10 : ByteArray) : EqR Try.prog (d + 3) 32 (.agg #[.int .i64 x0, .int .i64 x1, .int .i64 x2, .int .i64 x3, .int .i64 x4, .int .i64 x5, .int .i64 x6, .int .i64 x7, .string x8, .string x9, .string x10]) :=
  EqR.agg Try.underlying32 (by kernel_rfl) ⟨⟨_, fun w => rfl, EqR.int Try.underlying26⟩, ⟨_, fun w => rfl, EqR.int Try.underlying3⟩, ⟨_, fun w => rfl, EqR.int Try.underlying3⟩, ⟨_, fun w => rfl, EqR.int Try.underlying3⟩, ⟨_, fun w => rfl, EqR.int Try.underlying27⟩, ⟨_, fun w => rfl, EqR.agg Try.underlying30 (by kernel_rfl) ⟨⟨_, fun w => rfl, EqR.int Try.underlying28⟩, ⟨_, fun w => rfl, EqR.int Try.underlying3⟩, ⟨_, fun w => rfl, EqR.int Try.underlying3⟩, ⟨_, fun w => rfl, EqR.str Try.underlying9⟩, ⟨_, fun w => rfl, EqR.str Try.underlying9⟩, ⟨_, fun w => rfl, EqR.str Try.underlying9⟩, trivial⟩⟩, trivial⟩
theorem zr28 : (Try.prog.info? 28).map (·.zero) = some (some (.int .i64 0)) := by kernel_rfl
theorem zr30 : (Try.prog.info? 30).map (·.zero) = some (some (.agg #[.int .i64 0, .int .i64 0, .int .i64 0, .string ⟨#[]⟩, .string ⟨#[]⟩, .string ⟨#[]⟩])) := by kernel_rfl
theorem zr32 : (Try.prog.info? 32).map (·.zero) = some (some (.agg #[.int .i64 0, .int .i64 0, .int .i64 0, .int .i64 0, .int .i64 0, .int .i64 0, .int .i64 0, .int .i64 0, .string ⟨#[]⟩, .string ⟨#[]⟩, .string ⟨#[]⟩])) := by kernel_rfl
theorem pl30 {fs : Array Field} (h : Try.prog.underlying 30 = some (.struct fs)) (w : World) : (fs.mapM fun f => do pure (f.offset, ← sizeOf f.type) : Sem (Array (Nat × Nat))).run Try.prog w = .ok #[(0, 1), (1, 1), (2, 1), (3, 1), (4, 1), (5, 1)] w := by
  rw [Try.underlying30] at h
  cases h
  kernel_rfl
theorem pl32 {fs : Array Field} (h : Try.prog.underlying 32 = some (.struct fs)) (w : World) : (fs.mapM fun f => do pure (f.offset, ← sizeOf f.type) : Sem (Array (Nat × Nat))).run Try.prog w = .ok #[(0, 1), (1, 1), (2, 1), (3, 1), (4, 1), (5, 6)] w := by
  rw [Try.underlying32] at h
  cases h
  kernel_rfl

theorem opN_tab (a : Int) (h : 0 ≤ a) : ([.int .i64 1, .int .i64 2, .int .i64 3, .int .i64 1] : List Value)[(a % 4).toNat]? = some (.int .i64 (opN a)) := by
  have h4 : a % 4 = 0 ∨ a % 4 = 1 ∨ a % 4 = 2 ∨ a % 4 = 3 := by omega
  unfold opN
  rcases h4 with h4 | h4 | h4 | h4 <;> rw [h4] <;> rfl
theorem keyS_cut (b : Int) : (⟨#[97, 98, 99, 100]⟩ : ByteArray).extract (b % 4).toNat (b % 4 + 1).toNat = keyS b := by
  have h4 : b % 4 = 0 ∨ b % 4 = 1 ∨ b % 4 = 2 ∨ b % 4 = 3 := by omega
  unfold keyS
  rcases h4 with h4 | h4 | h4 | h4 <;> rw [h4] <;> decide +kernel
theorem valS_cut (b : Int) : (⟨#[48, 49, 50, 51]⟩ : ByteArray).extract (b % 4).toNat (b % 4 + 1).toNat = valS b := by
  have h4 : b % 4 = 0 ∨ b % 4 = 1 ∨ b % 4 = 2 ∨ b % 4 = 3 := by omega
  unfold valS
  rcases h4 with h4 | h4 | h4 | h4 <;> rw [h4] <;> decide +kernel

set_option maxRecDepth 100000 in
set_option maxHeartbeats 2000000 in
theorem cmd2_calls (a b : Int) (w : World) (ha : 0 ≤ a) (ha2 : a < 256) (hb : 0 ≤ b) (hb2 : b < 256) (hst : St w (fps []) [] w) :
    Calls Try.prog 34 #[.int .i64 a, .int .i64 b] w fun e w' => e = .returned (.agg (cmdL a b).toArray) ∧ St w (fps []) [] w' := by
  refine calls_of_run Try.func34 rfl rfl ?_
  refine Run.seq ?_
  refine Run.region ?_
  refine Ops.alloc _ hst zr30 rfl rfl (fun g1 w1 hst1 hg1 => ?_)
  refine Ops.nil ?_
  refine Run.seq ?_
  refine Run.draw (fun _ => True) none (by kernel_rfl) (fun w2 hw2 => ?_)
  have hst2 := hst1.idle (drew_fr _)
  rw [← hw2] at hst2
  clear hw2
  refine Any.take 1 rfl rfl rfl rfl (by kernel_rfl) panic_body (Ex.move rfl).s trivial ?_
  first | refine Any.take 2 rfl rfl rfl rfl (by kernel_rfl) panic_body (Ex.remI rfl rfl  (by omega) (by omega)).s trivial ?_ | refine Any.take 2 rfl rfl rfl rfl (by kernel_rfl) panic_body (Ex.rem rfl rfl  (by omega)).s trivial ?_
  refine Any.take 5 rfl rfl rfl rfl (by kernel_rfl) panic_body (Ex.move rfl).s trivial ?_
  first | refine Any.take 6 rfl rfl rfl rfl (by kernel_rfl) panic_body (Ex.quoI rfl rfl  (by omega) (by omega) (by omega)).s trivial ?_ | refine Any.take 6 rfl rfl rfl rfl (by kernel_rfl) panic_body (Ex.quo rfl rfl  (by omega)).s trivial ?_
  first | refine Any.take 7 rfl rfl rfl rfl (by kernel_rfl) panic_body (Ex.remI rfl rfl  (by omega) (by omega)).s trivial ?_ | refine Any.take 7 rfl rfl rfl rfl (by kernel_rfl) panic_body (Ex.rem rfl rfl  (by omega)).s trivial ?_
  refine Any.take 8 rfl rfl rfl rfl (by kernel_rfl) panic_body (Ex.move rfl).s trivial ?_
  first | refine Any.take 9 rfl rfl rfl rfl (by kernel_rfl) panic_body (Ex.quoI rfl rfl  (by omega) (by omega) (by omega)).s trivial ?_ | refine Any.take 9 rfl rfl rfl rfl (by kernel_rfl) panic_body (Ex.quo rfl rfl  (by omega)).s trivial ?_
  refine Any.take 10 rfl rfl rfl rfl (by kernel_rfl) panic_body (Ex.move rfl).s trivial ?_
  first | refine Any.take 11 rfl rfl rfl rfl (by kernel_rfl) panic_body (Ex.remI rfl rfl  (by omega) (by omega)).s trivial ?_ | refine Any.take 11 rfl rfl rfl rfl (by kernel_rfl) panic_body (Ex.rem rfl rfl  (by omega)).s trivial ?_
  refine Any.take 12 rfl rfl rfl rfl (by kernel_rfl) panic_body (Ex.move rfl).s trivial ?_
  first | refine Any.take 13 rfl rfl rfl rfl (by kernel_rfl) panic_body (Ex.remI rfl rfl  (by omega) (by omega)).s trivial ?_ | refine Any.take 13 rfl rfl rfl rfl (by kernel_rfl) panic_body (Ex.rem rfl rfl  (by omega)).s trivial ?_
  first | refine Any.take 14 rfl rfl rfl rfl (by kernel_rfl) panic_body (Ex.addI rfl rfl  (by omega) (by omega)).s trivial ?_ | refine Any.take 14 rfl rfl rfl rfl (by kernel_rfl) panic_body (Ex.add rfl rfl).s trivial ?_
  refine Any.take 15 rfl rfl rfl rfl (by kernel_rfl) panic_body (Ex.eq (Ex.cutS (i := b % 4) (j := b % 4 + 1) rfl Try.underlying9 rfl rfl (by omega) (by omega) (Int.le_trans (by omega : b % 4 + 1 ≤ 4) (by decide))) (congrArg Value.string (keyS_cut b))).s trivial ?_
  refine Any.all [0, 17] (by kernel_rfl) rfl (fun i hi => ?_)
  simp only [List.mem_cons, List.not_mem_nil, or_false] at hi
  rcases hi with rfl | rfl
  · skip
    refine ⟨_, rfl, rfl, One.of_ops rfl ?_⟩
    refine Ops.buildSlice [.int .i64 1, .int .i64 2, .int .i64 3, .int .i64 1] hst2 rfl Try.underlying75 sz28 zr28 rfl rfl (by kernel_rfl) rfl (fun g3 w3 hst3 hg3 => Ops.stop ⟨.inr trivial, ?_⟩)
    refine Any.take 3 rfl rfl rfl rfl (by kernel_rfl) panic_body (Ex.indexAddr (j := (a % 4).toNat) rfl rfl Try.underlying75 sz28 rfl (by omega) (by omega) (by first | rfl | (simp; done) | (simp; omega) | omega)).s trivial ?_
    refine Any.all [4, 17] (by kernel_rfl) rfl (fun i hi => ?_)
    simp only [List.mem_cons, List.not_mem_nil, or_false] at hi
    rcases hi with rfl | rfl
    · skip
      refine ⟨_, rfl, rfl, One.of_ops rfl ?_⟩
      refine Ops.load rfl Try.underlying28 rfl (by first | exact (Rd_of_blk (sz := 1) (m := 4) hst3 (i := 1) rfl rfl (by simp [Value.oneCell'])).cell (j := (a % 4).toNat) (opN_tab a ha) | exact (Rd_of_blk (sz := 1) (m := 4) hst3 (i := 2) rfl rfl (by simp [Value.oneCell'])).cell (j := (a % 4).toNat) (opN_tab a ha)) rfl (Ops.stop ⟨.inr trivial, ?_⟩)
      refine Any.take 16 rfl rfl rfl rfl (by kernel_rfl) panic_body (Ex.build [.int .i64 (opN a), .int .i64 (a / 4 % 4), .int .i64 (a / 16), .string (keyS b), .string ⟨#[]⟩, .string ⟨#[]⟩] rfl Try.underlying30 zr30 (pl30 Try.underlying30) (by kernel_rfl)).s trivial ?_
      refine Any.one 17 (by kernel_rfl) rfl rfl (One.of_ops rfl ?_)
      refine Ops.alloc _ hst3 zr30 rfl rfl (fun g4 w4 hst4 hg4 => Ops.stop ⟨.inr trivial, ?_⟩)
      refine Any.one 18 (by kernel_rfl) rfl rfl (One.of_ops rfl ?_)
      first | refine Ops.store 0 [.int .i64 (opN a), .int .i64 (a / 4 % 4), .int .i64 (a / 16), .string (keyS b), .string ⟨#[]⟩, .string ⟨#[]⟩] hst4 rfl rfl rfl rfl sz30 rfl (by simp [Value.oneCell']) (by simp) (fun w5 hst5 => Ops.stop ⟨.inr trivial, ?_⟩) | refine Ops.store 1 [.int .i64 (opN a), .int .i64 (a / 4 % 4), .int .i64 (a / 16), .string (keyS b), .string ⟨#[]⟩, .string ⟨#[]⟩] hst4 rfl rfl rfl rfl sz30 rfl (by simp [Value.oneCell']) (by simp) (fun w5 hst5 => Ops.stop ⟨.inr trivial, ?_⟩) | refine Ops.store 2 [.int .i64 (opN a), .int .i64 (a / 4 % 4), .int .i64 (a / 16), .string (keyS b), .string ⟨#[]⟩, .string ⟨#[]⟩] hst4 rfl rfl rfl rfl sz30 rfl (by simp [Value.oneCell']) (by simp) (fun w5 hst5 => Ops.stop ⟨.inr trivial, ?_⟩) | refine Ops.store 3 [.int .i64 (opN a), .int .i64 (a / 4 % 4), .int .i64 (a / 16), .string (keyS b), .string ⟨#[]⟩, .string ⟨#[]⟩] hst4 rfl rfl rfl rfl sz30 rfl (by simp [Value.oneCell']) (by simp) (fun w5 hst5 => Ops.stop ⟨.inr trivial, ?_⟩)
      refine Any.done (by kernel_rfl) ?_
      refine Run.seq ?_
      refine Run.seq ?_
      refine Run.region ?_
      refine Ops.fieldAddr rfl Try.underlying30 rfl sz28 rfl ?_
      refine Ops.load rfl Try.underlying28 rfl (by first | exact hst5.cell (i := 0) rfl rfl | exact hst5.cell (i := 1) rfl rfl | exact hst5.cell (i := 2) rfl rfl | exact hst5.cell (i := 3) rfl rfl | assumption) rfl ?_
      refine Ops.neq rfl rfl rfl ?_
      refine Ops.nil ?_
      refine Run.cond rfl (fun hc25 => ?_) (fun hc25 => ?_)
      · skip
        refine Run.region ?_
        refine Ops.move rfl rfl ?_
        first | refine Ops.quoI rfl rfl rfl (by omega) (by omega) (by omega) ?_ | refine Ops.quo rfl rfl rfl (by omega) ?_
        first | refine Ops.remI rfl rfl rfl (by omega) (by omega) ?_ | refine Ops.rem rfl rfl rfl (by omega) ?_
        refine Ops.move rfl rfl ?_
        first | refine Ops.quoI rfl rfl rfl (by omega) (by omega) (by omega) ?_ | refine Ops.quo rfl rfl rfl (by omega) ?_
        first | refine Ops.remI rfl rfl rfl (by omega) (by omega) ?_ | refine Ops.rem rfl rfl rfl (by omega) ?_
        first | refine Ops.addI rfl rfl rfl (by omega) (by omega) ?_ | refine Ops.add rfl rfl rfl ?_
        refine Ops.cutS (i := b / 4 % 4) (j := b / 4 % 4 + 1) rfl Try.underlying9 rfl rfl (by omega) (by omega) (Int.le_trans (by omega : b / 4 % 4 + 1 ≤ 4) (by decide)) rfl ?_
        refine Ops.re 33 rfl (congrArg Value.string (valS_cut (b / 4))) ?_
        refine Ops.fieldAddr rfl Try.underlying30 rfl sz9 rfl ?_
        first | refine Ops.store 0 [_] hst5 rfl rfl rfl rfl sz9 rfl (by simp [Value.oneCell']) (by simp) (fun w6 hst6 => ?_) | refine Ops.store 1 [_] hst5 rfl rfl rfl rfl sz9 rfl (by simp [Value.oneCell']) (by simp) (fun w6 hst6 => ?_) | refine Ops.store 2 [_] hst5 rfl rfl rfl rfl sz9 rfl (by simp [Value.oneCell']) (by simp) (fun w6 hst6 => ?_) | refine Ops.store 3 [_] hst5 rfl rfl rfl rfl sz9 rfl (by simp [Value.oneCell']) (by simp) (fun w6 hst6 => ?_)
        refine Ops.nil ?_
        refine Run.seq ?_
        refine Run.seq ?_
        refine Run.region ?_
        refine Ops.fieldAddr rfl Try.underlying30 rfl sz28 rfl ?_
        refine Ops.load rfl Try.underlying28 rfl (by first | exact hst6.cell (i := 0) rfl rfl | exact hst6.cell (i := 1) rfl rfl | exact hst6.cell (i := 2) rfl rfl | exact hst6.cell (i := 3) rfl rfl | assumption) rfl ?_
        refine Ops.eql rfl rfl rfl ?_
        refine Ops.nil ?_
        refine Run.cond rfl (fun hc37 => ?_) (fun hc37 => ?_)
        · skip
          refine Run.region ?_
          refine Ops.move rfl rfl ?_
          first | refine Ops.quoI rfl rfl rfl (by omega) (by omega) (by omega) ?_ | refine Ops.quo rfl rfl rfl (by omega) ?_
          first | refine Ops.remI rfl rfl rfl (by omega) (by omega) ?_ | refine Ops.rem rfl rfl rfl (by omega) ?_
          refine Ops.move rfl rfl ?_
          first | refine Ops.quoI rfl rfl rfl (by omega) (by omega) (by omega) ?_ | refine Ops.quo rfl rfl rfl (by omega) ?_
          first | refine Ops.remI rfl rfl rfl (by omega) (by omega) ?_ | refine Ops.rem rfl rfl rfl (by omega) ?_
          first | refine Ops.addI rfl rfl rfl (by omega) (by omega) ?_ | refine Ops.add rfl rfl rfl ?_
          refine Ops.cutS (i := b / 16 % 4) (j := b / 16 % 4 + 1) rfl Try.underlying9 rfl rfl (by omega) (by omega) (Int.le_trans (by omega : b / 16 % 4 + 1 ≤ 4) (by decide)) rfl ?_
          refine Ops.re 45 rfl (congrArg Value.string (valS_cut (b / 16))) ?_
          refine Ops.fieldAddr rfl Try.underlying30 rfl sz9 rfl ?_
          first | refine Ops.store 0 [_] hst6 rfl rfl rfl rfl sz9 rfl (by simp [Value.oneCell']) (by simp) (fun w7 hst7 => ?_) | refine Ops.store 1 [_] hst6 rfl rfl rfl rfl sz9 rfl (by simp [Value.oneCell']) (by simp) (fun w7 hst7 => ?_) | refine Ops.store 2 [_] hst6 rfl rfl rfl rfl sz9 rfl (by simp [Value.oneCell']) (by simp) (fun w7 hst7 => ?_) | refine Ops.store 3 [_] hst6 rfl rfl rfl rfl sz9 rfl (by simp [Value.oneCell']) (by simp) (fun w7 hst7 => ?_)
          refine Ops.nil ?_
          refine Run.seq ?_
          refine Run.region ?_
          first | refine Ops.loadAgg _ rfl Try.underlying30 rfl sz30 rfl (hst7.cells (i := 0) rfl _ 6) rfl ?_ | refine Ops.loadAgg _ rfl Try.underlying30 rfl sz30 rfl (hst7.cells (i := 1) rfl _ 6) rfl ?_ | refine Ops.loadAgg _ rfl Try.underlying30 rfl sz30 rfl (hst7.cells (i := 2) rfl _ 6) rfl ?_ | refine Ops.loadAgg _ rfl Try.underlying30 rfl sz30 rfl (hst7.cells (i := 3) rfl _ 6) rfl ?_
          first | refine Ops.store 0 _ hst7 rfl rfl rfl rfl sz30 rfl (by simp [Value.oneCell']) (by simp) (fun w8 hst8 => ?_) | refine Ops.store 1 _ hst7 rfl rfl rfl rfl sz30 rfl (by simp [Value.oneCell']) (by simp) (fun w8 hst8 => ?_) | refine Ops.store 2 _ hst7 rfl rfl rfl rfl sz30 rfl (by simp [Value.oneCell']) (by simp) (fun w8 hst8 => ?_) | refine Ops.store 3 _ hst7 rfl rfl rfl rfl sz30 rfl (by simp [Value.oneCell']) (by simp) (fun w8 hst8 => ?_)
          refine Ops.nil ?_
          refine Run.ret _ rfl (fun a ha => resC rfl rfl (run_loadN _ Try.underlying30 rfl sz30 rfl (by first | exact hst8.cells (i := 0) rfl _ 6 | exact hst8.cells (i := 1) rfl _ 6 | exact hst8.cells (i := 2) rfl _ 6 | exact hst8.cells (i := 3) rfl _ 6)) ha) ?_
          refine ⟨congrArg (fun l : List Value => Ending.returned (.agg l.toArray)) ?_, hst8.sub (List.nil_sublist _)⟩
          simp at hc25 hc37
          first | omega | (simp [cmdL, hc25, hc37] at *; try simp [hc25, hc37])
        · skip
          refine Run.skip ?_
          refine Run.seq ?_
          refine Run.region ?_
          first | refine Ops.loadAgg _ rfl Try.underlying30 rfl sz30 rfl (hst6.cells (i := 0) rfl _ 6) rfl ?_ | refine Ops.loadAgg _ rfl Try.underlying30 rfl sz30 rfl (hst6.cells (i := 1) rfl _ 6) rfl ?_ | refine Ops.loadAgg _ rfl Try.underlying30 rfl sz30 rfl (hst6.cells (i := 2) rfl _ 6) rfl ?_ | refine Ops.loadAgg _ rfl Try.underlying30 rfl sz30 rfl (hst6.cells (i := 3) rfl _ 6) rfl ?_
          first | refine Ops.store 0 _ hst6 rfl rfl rfl rfl sz30 rfl (by simp [Value.oneCell']) (by simp) (fun w9 hst9 => ?_) | refine Ops.store 1 _ hst6 rfl rfl rfl rfl sz30 rfl (by simp [Value.oneCell']) (by simp) (fun w9 hst9 => ?_) | refine Ops.store 2 _ hst6 rfl rfl rfl rfl sz30 rfl (by simp [Value.oneCell']) (by simp) (fun w9 hst9 => ?_) | refine Ops.store 3 _ hst6 rfl rfl rfl rfl sz30 rfl (by simp [Value.oneCell']) (by simp) (fun w9 hst9 => ?_)
          refine Ops.nil ?_
          refine Run.ret _ rfl (fun a ha => resC rfl rfl (run_loadN _ Try.underlying30 rfl sz30 rfl (by first | exact hst9.cells (i := 0) rfl _ 6 | exact hst9.cells (i := 1) rfl _ 6 | exact hst9.cells (i := 2) rfl _ 6 | exact hst9.cells (i := 3) rfl _ 6)) ha) ?_
          refine ⟨congrArg (fun l : List Value => Ending.returned (.agg l.toArray)) ?_, hst9.sub (List.nil_sublist _)⟩
          simp at hc25 hc37
          first | omega | (simp [cmdL, hc25, hc37] at *; try simp [hc25, hc37])
      · skip
        refine Run.skip ?_
        refine Run.seq ?_
        refine Run.seq ?_
        refine Run.region ?_
        refine Ops.fieldAddr rfl Try.underlying30 rfl sz28 rfl ?_
        refine Ops.load rfl Try.underlying28 rfl (by first | exact hst5.cell (i := 0) rfl rfl | exact hst5.cell (i := 1) rfl rfl | exact hst5.cell (i := 2) rfl rfl | exact hst5.cell (i := 3) rfl rfl | assumption) rfl ?_
        refine Ops.eql rfl rfl rfl ?_
        refine Ops.nil ?_
        refine Run.cond rfl (fun hc37 => ?_) (fun hc37 => ?_)
        · skip
          refine Run.region ?_
          refine Ops.move rfl rfl ?_
          first | refine Ops.quoI rfl rfl rfl (by omega) (by omega) (by omega) ?_ | refine Ops.quo rfl rfl rfl (by omega) ?_
          first | refine Ops.remI rfl rfl rfl (by omega) (by omega) ?_ | refine Ops.rem rfl rfl rfl (by omega) ?_
          refine Ops.move rfl rfl ?_
          first | refine Ops.quoI rfl rfl rfl (by omega) (by omega) (by omega) ?_ | refine Ops.quo rfl rfl rfl (by omega) ?_
          first | refine Ops.remI rfl rfl rfl (by omega) (by omega) ?_ | refine Ops.rem rfl rfl rfl (by omega) ?_
          first | refine Ops.addI rfl rfl rfl (by omega) (by omega) ?_ | refine Ops.add rfl rfl rfl ?_
          refine Ops.cutS (i := b / 16 % 4) (j := b / 16 % 4 + 1) rfl Try.underlying9 rfl rfl (by omega) (by omega) (Int.le_trans (by omega : b / 16 % 4 + 1 ≤ 4) (by decide)) rfl ?_
          refine Ops.re 45 rfl (congrArg Value.string (valS_cut (b / 16))) ?_
          refine Ops.fieldAddr rfl Try.underlying30 rfl sz9 rfl ?_
          first | refine Ops.store 0 [_] hst5 rfl rfl rfl rfl sz9 rfl (by simp [Value.oneCell']) (by simp) (fun w10 hst10 => ?_) | refine Ops.store 1 [_] hst5 rfl rfl rfl rfl sz9 rfl (by simp [Value.oneCell']) (by simp) (fun w10 hst10 => ?_) | refine Ops.store 2 [_] hst5 rfl rfl rfl rfl sz9 rfl (by simp [Value.oneCell']) (by simp) (fun w10 hst10 => ?_) | refine Ops.store 3 [_] hst5 rfl rfl rfl rfl sz9 rfl (by simp [Value.oneCell']) (by simp) (fun w10 hst10 => ?_)
          refine Ops.nil ?_
          refine Run.seq ?_
          refine Run.region ?_
          first | refine Ops.loadAgg _ rfl Try.underlying30 rfl sz30 rfl (hst10.cells (i := 0) rfl _ 6) rfl ?_ | refine Ops.loadAgg _ rfl Try.underlying30 rfl sz30 rfl (hst10.cells (i := 1) rfl _ 6) rfl ?_ | refine Ops.loadAgg _ rfl Try.underlying30 rfl sz30 rfl (hst10.cells (i := 2) rfl _ 6) rfl ?_ | refine Ops.loadAgg _ rfl Try.underlying30 rfl sz30 rfl (hst10.cells (i := 3) rfl _ 6) rfl ?_
          first | refine Ops.store 0 _ hst10 rfl rfl rfl rfl sz30 rfl (by simp [Value.oneCell']) (by simp) (fun w11 hst11 => ?_) | refine Ops.store 1 _ hst10 rfl rfl rfl rfl sz30 rfl (by simp [Value.oneCell']) (by simp) (fun w11 hst11 => ?_) | refine Ops.store 2 _ hst10 rfl rfl rfl rfl sz30 rfl (by simp [Value.oneCell']) (by simp) (fun w11 hst11 => ?_) | refine Ops.store 3 _ hst10 rfl rfl rfl rfl sz30 rfl (by simp [Value.oneCell']) (by simp) (fun w11 hst11 => ?_)
          refine Ops.nil ?_
          refine Run.ret _ rfl (fun a ha => resC rfl rfl (run_loadN _ Try.underlying30 rfl sz30 rfl (by first | exact hst11.cells (i := 0) rfl _ 6 | exact hst11.cells (i := 1) rfl _ 6 | exact hst11.cells (i := 2) rfl _ 6 | exact hst11.cells (i := 3) rfl _ 6)) ha) ?_
          refine ⟨congrArg (fun l : List Value => Ending.returned (.agg l.toArray)) ?_, hst11.sub (List.nil_sublist _)⟩
          simp at hc25 hc37
          first | omega | (simp [cmdL, hc25, hc37] at *; try simp [hc25, hc37])
        · skip
          refine Run.skip ?_
          refine Run.seq ?_
          refine Run.region ?_
          first | refine Ops.loadAgg _ rfl Try.underlying30 rfl sz30 rfl (hst5.cells (i := 0) rfl _ 6) rfl ?_ | refine Ops.loadAgg _ rfl Try.underlying30 rfl sz30 rfl (hst5.cells (i := 1) rfl _ 6) rfl ?_ | refine Ops.loadAgg _ rfl Try.underlying30 rfl sz30 rfl (hst5.cells (i := 2) rfl _ 6) rfl ?_ | refine Ops.loadAgg _ rfl Try.underlying30 rfl sz30 rfl (hst5.cells (i := 3) rfl _ 6) rfl ?_
          first | refine Ops.store 0 _ hst5 rfl rfl rfl rfl sz30 rfl (by simp [Value.oneCell']) (by simp) (fun w12 hst12 => ?_) | refine Ops.store 1 _ hst5 rfl rfl rfl rfl sz30 rfl (by simp [Value.oneCell']) (by simp) (fun w12 hst12 => ?_) | refine Ops.store 2 _ hst5 rfl rfl rfl rfl sz30 rfl (by simp [Value.oneCell']) (by simp) (fun w12 hst12 => ?_) | refine Ops.store 3 _ hst5 rfl rfl rfl rfl sz30 rfl (by simp [Value.oneCell']) (by simp) (fun w12 hst12 => ?_)
          refine Ops.nil ?_
          refine Run.ret _ rfl (fun a ha => resC rfl rfl (run_loadN _ Try.underlying30 rfl sz30 rfl (by first | exact hst12.cells (i := 0) rfl _ 6 | exact hst12.cells (i := 1) rfl _ 6 | exact hst12.cells (i := 2) rfl _ 6 | exact hst12.cells (i := 3) rfl _ 6)) ha) ?_
          refine ⟨congrArg (fun l : List Value => Ending.returned (.agg l.toArray)) ?_, hst12.sub (List.nil_sublist _)⟩
          simp at hc25 hc37
          first | omega | (simp [cmdL, hc25, hc37] at *; try simp [hc25, hc37])
    · skip
      refine ⟨_, rfl, rfl, One.of_ops rfl ?_⟩
      refine Ops.alloc _ hst3 zr30 rfl rfl (fun g13 w13 hst13 hg13 => Ops.stop ⟨.inr trivial, ?_⟩)
      refine Any.one 4 (by kernel_rfl) rfl rfl (One.of_ops rfl ?_)
      refine Ops.load rfl Try.underlying28 rfl (by first | exact (Rd_of_blk (sz := 1) (m := 4) hst13 (i := 1) rfl rfl (by simp [Value.oneCell'])).cell (j := (a % 4).toNat) (opN_tab a ha) | exact (Rd_of_blk (sz := 1) (m := 4) hst13 (i := 2) rfl rfl (by simp [Value.oneCell'])).cell (j := (a % 4).toNat) (opN_tab a ha)) rfl (Ops.stop ⟨.inr trivial, ?_⟩)
      refine Any.take 16 rfl rfl rfl rfl (by kernel_rfl) panic_body (Ex.build [.int .i64 (opN a), .int .i64 (a / 4 % 4), .int .i64 (a / 16), .string (keyS b), .string ⟨#[]⟩, .string ⟨#[]⟩] rfl Try.underlying30 zr30 (pl30 Try.underlying30) (by kernel_rfl)).s trivial ?_
      refine Any.one 18 (by kernel_rfl) rfl rfl (One.of_ops rfl ?_)
      first | refine Ops.store 0 [.int .i64 (opN a), .int .i64 (a / 4 % 4), .int .i64 (a / 16), .string (keyS b), .string ⟨#[]⟩, .string ⟨#[]⟩] hst13 rfl rfl rfl rfl sz30 rfl (by simp [Value.oneCell']) (by simp) (fun w14 hst14 => Ops.stop ⟨.inr trivial, ?_⟩) | refine Ops.store 1 [.int .i64 (opN a), .int .i64 (a / 4 % 4), .int .i64 (a / 16), .string (keyS b), .string ⟨#[]⟩, .string ⟨#[]⟩] hst13 rfl rfl rfl rfl sz30 rfl (by simp [Value.oneCell']) (by simp) (fun w14 hst14 => Ops.stop ⟨.inr trivial, ?_⟩) | refine Ops.store 2 [.int .i64 (opN a), .int .i64 (a / 4 % 4), .int .i64 (a / 16), .string (keyS b), .string ⟨#[]⟩, .string ⟨#[]⟩] hst13 rfl rfl rfl rfl sz30 rfl (by simp [Value.oneCell']) (by simp) (fun w14 hst14 => Ops.stop ⟨.inr trivial, ?_⟩) | refine Ops.store 3 [.int .i64 (opN a), .int .i64 (a / 4 % 4), .int .i64 (a / 16), .string (keyS b), .string ⟨#[]⟩, .string ⟨#[]⟩] hst13 rfl rfl rfl rfl sz30 rfl (by simp [Value.oneCell']) (by simp) (fun w14 hst14 => Ops.stop ⟨.inr trivial, ?_⟩)
      refine Any.done (by kernel_rfl) ?_
      refine Run.seq ?_
      refine Run.seq ?_
      refine Run.region ?_
      refine Ops.fieldAddr rfl Try.underlying30 rfl sz28 rfl ?_
      refine Ops.load rfl Try.underlying28 rfl (by first | exact hst14.cell (i := 0) rfl rfl | exact hst14.cell (i := 1) rfl rfl | exact hst14.cell (i := 2) rfl rfl | exact hst14.cell (i := 3) rfl rfl | assumption) rfl ?_
      refine Ops.neq rfl rfl rfl ?_
      refine Ops.nil ?_
      refine Run.cond rfl (fun hc25 => ?_) (fun hc25 => ?_)
      · skip
        refine Run.region ?_
        refine Ops.move rfl rfl ?_
        first | refine Ops.quoI rfl rfl rfl (by omega) (by omega) (by omega) ?_ | refine Ops.quo rfl rfl rfl (by omega) ?_
        first | refine Ops.remI rfl rfl rfl (by omega) (by omega) ?_ | refine Ops.rem rfl rfl rfl (by omega) ?_
        refine Ops.move rfl rfl ?_
        first | refine Ops.quoI rfl rfl rfl (by omega) (by omega) (by omega) ?_ | refine Ops.quo rfl rfl rfl (by omega) ?_
        first | refine Ops.remI rfl rfl rfl (by omega) (by omega) ?_ | refine Ops.rem rfl rfl rfl (by omega) ?_
        first | refine Ops.addI rfl rfl rfl (by omega) (by omega) ?_ | refine Ops.add rfl rfl rfl ?_
        refine Ops.cutS (i := b / 4 % 4) (j := b / 4 % 4 + 1) rfl Try.underlying9 rfl rfl (by omega) (by omega) (Int.le_trans (by omega : b / 4 % 4 + 1 ≤ 4) (by decide)) rfl ?_
        refine Ops.re 33 rfl (congrArg Value.string (valS_cut (b / 4))) ?_
        refine Ops.fieldAddr rfl Try.underlying30 rfl sz9 rfl ?_
        first | refine Ops.store 0 [_] hst14 rfl rfl rfl rfl sz9 rfl (by simp [Value.oneCell']) (by simp) (fun w15 hst15 => ?_) | refine Ops.store 1 [_] hst14 rfl rfl rfl rfl sz9 rfl (by simp [Value.oneCell']) (by simp) (fun w15 hst15 => ?_) | refine Ops.store 2 [_] hst14 rfl rfl rfl rfl sz9 rfl (by simp [Value.oneCell']) (by simp) (fun w15 hst15 => ?_) | refine Ops.store 3 [_] hst14 rfl rfl rfl rfl sz9 rfl (by simp [Value.oneCell']) (by simp) (fun w15 hst15 => ?_)
        refine Ops.nil ?_
        refine Run.seq ?_
        refine Run.seq ?_
        refine Run.region ?_
        refine Ops.fieldAddr rfl Try.underlying30 rfl sz28 rfl ?_
        refine Ops.load rfl Try.underlying28 rfl (by first | exact hst15.cell (i := 0) rfl rfl | exact hst15.cell (i := 1) rfl rfl | exact hst15.cell (i := 2) rfl rfl | exact hst15.cell (i := 3) rfl rfl | assumption) rfl ?_
        refine Ops.eql rfl rfl rfl ?_
        refine Ops.nil ?_
        refine Run.cond rfl (fun hc37 => ?_) (fun hc37 => ?_)
        · skip
          refine Run.region ?_
          refine Ops.move rfl rfl ?_
          first | refine Ops.quoI rfl rfl rfl (by omega) (by omega) (by omega) ?_ | refine Ops.quo rfl rfl rfl (by omega) ?_
          first | refine Ops.remI rfl rfl rfl (by omega) (by omega) ?_ | refine Ops.rem rfl rfl rfl (by omega) ?_
          refine Ops.move rfl rfl ?_
          first | refine Ops.quoI rfl rfl rfl (by omega) (by omega) (by omega) ?_ | refine Ops.quo rfl rfl rfl (by omega) ?_
          first | refine Ops.remI rfl rfl rfl (by omega) (by omega) ?_ | refine Ops.rem rfl rfl rfl (by omega) ?_
          first | refine Ops.addI rfl rfl rfl (by omega) (by omega) ?_ | refine Ops.add rfl rfl rfl ?_
          refine Ops.cutS (i := b / 16 % 4) (j := b / 16 % 4 + 1) rfl Try.underlying9 rfl rfl (by omega) (by omega) (Int.le_trans (by omega : b / 16 % 4 + 1 ≤ 4) (by decide)) rfl ?_
          refine Ops.re 45 rfl (congrArg Value.string (valS_cut (b / 16))) ?_
          refine Ops.fieldAddr rfl Try.underlying30 rfl sz9 rfl ?_
          first | refine Ops.store 0 [_] hst15 rfl rfl rfl rfl sz9 rfl (by simp [Value.oneCell']) (by simp) (fun w16 hst16 => ?_) | refine Ops.store 1 [_] hst15 rfl rfl rfl rfl sz9 rfl (by simp [Value.oneCell']) (by simp) (fun w16 hst16 => ?_) | refine Ops.store 2 [_] hst15 rfl rfl rfl rfl sz9 rfl (by simp [Value.oneCell']) (by simp) (fun w16 hst16 => ?_) | refine Ops.store 3 [_] hst15 rfl rfl rfl rfl sz9 rfl (by simp [Value.oneCell']) (by simp) (fun w16 hst16 => ?_)
          refine Ops.nil ?_
          refine Run.seq ?_
          refine Run.region ?_
          first | refine Ops.loadAgg _ rfl Try.underlying30 rfl sz30 rfl (hst16.cells (i := 0) rfl _ 6) rfl ?_ | refine Ops.loadAgg _ rfl Try.underlying30 rfl sz30 rfl (hst16.cells (i := 1) rfl _ 6) rfl ?_ | refine Ops.loadAgg _ rfl Try.underlying30 rfl sz30 rfl (hst16.cells (i := 2) rfl _ 6) rfl ?_ | refine Ops.loadAgg _ rfl Try.underlying30 rfl sz30 rfl (hst16.cells (i := 3) rfl _ 6) rfl ?_
          first | refine Ops.store 0 _ hst16 rfl rfl rfl rfl sz30 rfl (by simp [Value.oneCell']) (by simp) (fun w17 hst17 => ?_) | refine Ops.store 1 _ hst16 rfl rfl rfl rfl sz30 rfl (by simp [Value.oneCell']) (by simp) (fun w17 hst17 => ?_) | refine Ops.store 2 _ hst16 rfl rfl rfl rfl sz30 rfl (by simp [Value.oneCell']) (by simp) (fun w17 hst17 => ?_) | refine Ops.store 3 _ hst16 rfl rfl rfl rfl sz30 rfl (by simp [Value.oneCell']) (by simp) (fun w17 hst17 => ?_)
          refine Ops.nil ?_
          refine Run.ret _ rfl (fun a ha => resC rfl rfl (run_loadN _ Try.underlying30 rfl sz30 rfl (by first | exact hst17.cells (i := 0) rfl _ 6 | exact hst17.cells (i := 1) rfl _ 6 | exact hst17.cells (i := 2) rfl _ 6 | exact hst17.cells (i := 3) rfl _ 6)) ha) ?_
          refine ⟨congrArg (fun l : List Value => Ending.returned (.agg l.toArray)) ?_, hst17.sub (List.nil_sublist _)⟩
          simp at hc25 hc37
          first | omega | (simp [cmdL, hc25, hc37] at *; try simp [hc25, hc37])
        · skip
          refine Run.skip ?_
          refine Run.seq ?_
          refine Run.region ?_
          first | refine Ops.loadAgg _ rfl Try.underlying30 rfl sz30 rfl (hst15.cells (i := 0) rfl _ 6) rfl ?_ | refine Ops.loadAgg _ rfl Try.underlying30 rfl sz30 rfl (hst15.cells (i := 1) rfl _ 6) rfl ?_ | refine Ops.loadAgg _ rfl Try.underlying30 rfl sz30 rfl (hst15.cells (i := 2) rfl _ 6) rfl ?_ | refine Ops.loadAgg _ rfl Try.underlying30 rfl sz30 rfl (hst15.cells (i := 3) rfl _ 6) rfl ?_
          first | refine Ops.store 0 _ hst15 rfl rfl rfl rfl sz30 rfl (by simp [Value.oneCell']) (by simp) (fun w18 hst18 => ?_) | refine Ops.store 1 _ hst15 rfl rfl rfl rfl sz30 rfl (by simp [Value.oneCell']) (by simp) (fun w18 hst18 => ?_) | refine Ops.store 2 _ hst15 rfl rfl rfl rfl sz30 rfl (by simp [Value.oneCell']) (by simp) (fun w18 hst18 => ?_) | refine Ops.store 3 _ hst15 rfl rfl rfl rfl sz30 rfl (by simp [Value.oneCell']) (by simp) (fun w18 hst18 => ?_)
          refine Ops.nil ?_
          refine Run.ret _ rfl (fun a ha => resC rfl rfl (run_loadN _ Try.underlying30 rfl sz30 rfl (by first | exact hst18.cells (i := 0) rfl _ 6 | exact hst18.cells (i := 1) rfl _ 6 | exact hst18.cells (i := 2) rfl _ 6 | exact hst18.cells (i := 3) rfl _ 6)) ha) ?_
          refine ⟨congrArg (fun l : List Value => Ending.returned (.agg l.toArray)) ?_, hst18.sub (List.nil_sublist _)⟩
          simp at hc25 hc37
          first | omega | (simp [cmdL, hc25, hc37] at *; try simp [hc25, hc37])
      · skip
        refine Run.skip ?_
        refine Run.seq ?_
        refine Run.seq ?_
        refine Run.region ?_
        refine Ops.fieldAddr rfl Try.underlying30 rfl sz28 rfl ?_
        refine Ops.load rfl Try.underlying28 rfl (by first | exact hst14.cell (i := 0) rfl rfl | exact hst14.cell (i := 1) rfl rfl | exact hst14.cell (i := 2) rfl rfl | exact hst14.cell (i := 3) rfl rfl | assumption) rfl ?_
        refine Ops.eql rfl rfl rfl ?_
        refine Ops.nil ?_
        refine Run.cond rfl (fun hc37 => ?_) (fun hc37 => ?_)
        · skip
          refine Run.region ?_
          refine Ops.move rfl rfl ?_
          first | refine Ops.quoI rfl rfl rfl (by omega) (by omega) (by omega) ?_ | refine Ops.quo rfl rfl rfl (by omega) ?_
          first | refine Ops.remI rfl rfl rfl (by omega) (by omega) ?_ | refine Ops.rem rfl rfl rfl (by omega) ?_
          refine Ops.move rfl rfl ?_
          first | refine Ops.quoI rfl rfl rfl (by omega) (by omega) (by omega) ?_ | refine Ops.quo rfl rfl rfl (by omega) ?_
          first | refine Ops.remI rfl rfl rfl (by omega) (by omega) ?_ | refine Ops.rem rfl rfl rfl (by omega) ?_
          first | refine Ops.addI rfl rfl rfl (by omega) (by omega) ?_ | refine Ops.add rfl rfl rfl ?_
          refine Ops.cutS (i := b / 16 % 4) (j := b / 16 % 4 + 1) rfl Try.underlying9 rfl rfl (by omega) (by omega) (Int.le_trans (by omega : b / 16 % 4 + 1 ≤ 4) (by decide)) rfl ?_
          refine Ops.re 45 rfl (congrArg Value.string (valS_cut (b / 16))) ?_
          refine Ops.fieldAddr rfl Try.underlying30 rfl sz9 rfl ?_
          first | refine Ops.store 0 [_] hst14 rfl rfl rfl rfl sz9 rfl (by simp [Value.oneCell']) (by simp) (fun w19 hst19 => ?_) | refine Ops.store 1 [_] hst14 rfl rfl rfl rfl sz9 rfl (by simp [Value.oneCell']) (by simp) (fun w19 hst19 => ?_) | refine Ops.store 2 [_] hst14 rfl rfl rfl rfl sz9 rfl (by simp [Value.oneCell']) (by simp) (fun w19 hst19 => ?_) | refine Ops.store 3 [_] hst14 rfl rfl rfl rfl sz9 rfl (by simp [Value.oneCell']) (by simp) (fun w19 hst19 => ?_)
          refine Ops.nil ?_
          refine Run.seq ?_
          refine Run.region ?_
          first | refine Ops.loadAgg _ rfl Try.underlying30 rfl sz30 rfl (hst19.cells (i := 0) rfl _ 6) rfl ?_ | refine Ops.loadAgg _ rfl Try.underlying30 rfl sz30 rfl (hst19.cells (i := 1) rfl _ 6) rfl ?_ | refine Ops.loadAgg _ rfl Try.underlying30 rfl sz30 rfl (hst19.cells (i := 2) rfl _ 6) rfl ?_ | refine Ops.loadAgg _ rfl Try.underlying30 rfl sz30 rfl (hst19.cells (i := 3) rfl _ 6) rfl ?_
          first | refine Ops.store 0 _ hst19 rfl rfl rfl rfl sz30 rfl (by simp [Value.oneCell']) (by simp) (fun w20 hst20 => ?_) | refine Ops.store 1 _ hst19 rfl rfl rfl rfl sz30 rfl (by simp [Value.oneCell']) (by simp) (fun w20 hst20 => ?_) | refine Ops.store 2 _ hst19 rfl rfl rfl rfl sz30 rfl (by simp [Value.oneCell']) (by simp) (fun w20 hst20 => ?_) | refine Ops.store 3 _ hst19 rfl rfl rfl rfl sz30 rfl (by simp [Value.oneCell']) (by simp) (fun w20 hst20 => ?_)
          refine Ops.nil ?_
          refine Run.ret _ rfl (fun a ha => resC rfl rfl (run_loadN _ Try.underlying30 rfl sz30 rfl (by first | exact hst20.cells (i := 0) rfl _ 6 | exact hst20.cells (i := 1) rfl _ 6 | exact hst20.cells (i := 2) rfl _ 6 | exact hst20.cells (i := 3) rfl _ 6)) ha) ?_
          refine ⟨congrArg (fun l : List Value => Ending.returned (.agg l.toArray)) ?_, hst20.sub (List.nil_sublist _)⟩
          simp at hc25 hc37
          first | omega | (simp [cmdL, hc25, hc37] at *; try simp [hc25, hc37])
        · skip
          refine Run.skip ?_
          refine Run.seq ?_
          refine Run.region ?_
          first | refine Ops.loadAgg _ rfl Try.underlying30 rfl sz30 rfl (hst14.cells (i := 0) rfl _ 6) rfl ?_ | refine Ops.loadAgg _ rfl Try.underlying30 rfl sz30 rfl (hst14.cells (i := 1) rfl _ 6) rfl ?_ | refine Ops.loadAgg _ rfl Try.underlying30 rfl sz30 rfl (hst14.cells (i := 2) rfl _ 6) rfl ?_ | refine Ops.loadAgg _ rfl Try.underlying30 rfl sz30 rfl (hst14.cells (i := 3) rfl _ 6) rfl ?_
          first | refine Ops.store 0 _ hst14 rfl rfl rfl rfl sz30 rfl (by simp [Value.oneCell']) (by simp) (fun w21 hst21 => ?_) | refine Ops.store 1 _ hst14 rfl rfl rfl rfl sz30 rfl (by simp [Value.oneCell']) (by simp) (fun w21 hst21 => ?_) | refine Ops.store 2 _ hst14 rfl rfl rfl rfl sz30 rfl (by simp [Value.oneCell']) (by simp) (fun w21 hst21 => ?_) | refine Ops.store 3 _ hst14 rfl rfl rfl rfl sz30 rfl (by simp [Value.oneCell']) (by simp) (fun w21 hst21 => ?_)
          refine Ops.nil ?_
          refine Run.ret _ rfl (fun a ha => resC rfl rfl (run_loadN _ Try.underlying30 rfl sz30 rfl (by first | exact hst21.cells (i := 0) rfl _ 6 | exact hst21.cells (i := 1) rfl _ 6 | exact hst21.cells (i := 2) rfl _ 6 | exact hst21.cells (i := 3) rfl _ 6)) ha) ?_
          refine ⟨congrArg (fun l : List Value => Ending.returned (.agg l.toArray)) ?_, hst21.sub (List.nil_sublist _)⟩
          simp at hc25 hc37
          first | omega | (simp [cmdL, hc25, hc37] at *; try simp [hc25, hc37])
  · skip
    refine ⟨_, rfl, rfl, One.of_ops rfl ?_⟩
    refine Ops.alloc _ hst2 zr30 rfl rfl (fun g22 w22 hst22 hg22 => Ops.stop ⟨.inr trivial, ?_⟩)
    refine Any.one 0 (by kernel_rfl) rfl rfl (One.of_ops rfl ?_)
    refine Ops.buildSlice [.int .i64 1, .int .i64 2, .int .i64 3, .int .i64 1] hst22 rfl Try.underlying75 sz28 zr28 rfl rfl (by kernel_rfl) rfl (fun g23 w23 hst23 hg23 => Ops.stop ⟨.inr trivial, ?_⟩)
    refine Any.take 3 rfl rfl rfl rfl (by kernel_rfl) panic_body (Ex.indexAddr (j := (a % 4).toNat) rfl rfl Try.underlying75 sz28 rfl (by omega) (by omega) (by first | rfl | (simp; done) | (simp; omega) | omega)).s trivial ?_
    refine Any.one 4 (by kernel_rfl) rfl rfl (One.of_ops rfl ?_)
    refine Ops.load rfl Try.underlying28 rfl (by first | exact (Rd_of_blk (sz := 1) (m := 4) hst23 (i := 1) rfl rfl (by simp [Value.oneCell'])).cell (j := (a % 4).toNat) (opN_tab a ha) | exact (Rd_of_blk (sz := 1) (m := 4) hst23 (i := 2) rfl rfl (by simp [Value.oneCell'])).cell (j := (a % 4).toNat) (opN_tab a ha)) rfl (Ops.stop ⟨.inr trivial, ?_⟩)
    refine Any.take 16 rfl rfl rfl rfl (by kernel_rfl) panic_body (Ex.build [.int .i64 (opN a), .int .i64 (a / 4 % 4), .int .i64 (a / 16), .string (keyS b), .string ⟨#[]⟩, .string ⟨#[]⟩] rfl Try.underlying30 zr30 (pl30 Try.underlying30) (by kernel_rfl)).s trivial ?_
    refine Any.one 18 (by kernel_rfl) rfl rfl (One.of_ops rfl ?_)
    first | refine Ops.store 0 [.int .i64 (opN a), .int .i64 (a / 4 % 4), .int .i64 (a / 16), .string (keyS b), .string ⟨#[]⟩, .string ⟨#[]⟩] hst23 rfl rfl rfl rfl sz30 rfl (by simp [Value.oneCell']) (by simp) (fun w24 hst24 => Ops.stop ⟨.inr trivial, ?_⟩) | refine Ops.store 1 [.int .i64 (opN a), .int .i64 (a / 4 % 4), .int .i64 (a / 16), .string (keyS b), .string ⟨#[]⟩, .string ⟨#[]⟩] hst23 rfl rfl rfl rfl sz30 rfl (by simp [Value.oneCell']) (by simp) (fun w24 hst24 => Ops.stop ⟨.inr trivial, ?_⟩) | refine Ops.store 2 [.int .i64 (opN a), .int .i64 (a / 4 % 4), .int .i64 (a / 16), .string (keyS b), .string ⟨#[]⟩, .string ⟨#[]⟩] hst23 rfl rfl rfl rfl sz30 rfl (by simp [Value.oneCell']) (by simp) (fun w24 hst24 => Ops.stop ⟨.inr trivial, ?_⟩) | refine Ops.store 3 [.int .i64 (opN a), .int .i64 (a / 4 % 4), .int .i64 (a / 16), .string (keyS b), .string ⟨#[]⟩, .string ⟨#[]⟩] hst23 rfl rfl rfl rfl sz30 rfl (by simp [Value.oneCell']) (by simp) (fun w24 hst24 => Ops.stop ⟨.inr trivial, ?_⟩)
    refine Any.done (by kernel_rfl) ?_
    refine Run.seq ?_
    refine Run.seq ?_
    refine Run.region ?_
    refine Ops.fieldAddr rfl Try.underlying30 rfl sz28 rfl ?_
    refine Ops.load rfl Try.underlying28 rfl (by first | exact hst24.cell (i := 0) rfl rfl | exact hst24.cell (i := 1) rfl rfl | exact hst24.cell (i := 2) rfl rfl | exact hst24.cell (i := 3) rfl rfl | assumption) rfl ?_
    refine Ops.neq rfl rfl rfl ?_
    refine Ops.nil ?_
    refine Run.cond rfl (fun hc25 => ?_) (fun hc25 => ?_)
    · skip
      refine Run.region ?_
      refine Ops.move rfl rfl ?_
      first | refine Ops.quoI rfl rfl rfl (by omega) (by omega) (by omega) ?_ | refine Ops.quo rfl rfl rfl (by omega) ?_
      first | refine Ops.remI rfl rfl rfl (by omega) (by omega) ?_ | refine Ops.rem rfl rfl rfl (by omega) ?_
      refine Ops.move rfl rfl ?_
      first | refine Ops.quoI rfl rfl rfl (by omega) (by omega) (by omega) ?_ | refine Ops.quo rfl rfl rfl (by omega) ?_
      first | refine Ops.remI rfl rfl rfl (by omega) (by omega) ?_ | refine Ops.rem rfl rfl rfl (by omega) ?_
      first | refine Ops.addI rfl rfl rfl (by omega) (by omega) ?_ | refine Ops.add rfl rfl rfl ?_
      refine Ops.cutS (i := b / 4 % 4) (j := b / 4 % 4 + 1) rfl Try.underlying9 rfl rfl (by omega) (by omega) (Int.le_trans (by omega : b / 4 % 4 + 1 ≤ 4) (by decide)) rfl ?_
      refine Ops.re 33 rfl (congrArg Value.string (valS_cut (b / 4))) ?_
      refine Ops.fieldAddr rfl Try.underlying30 rfl sz9 rfl ?_
      first | refine Ops.store 0 [_] hst24 rfl rfl rfl rfl sz9 rfl (by simp [Value.oneCell']) (by simp) (fun w25 hst25 => ?_) | refine Ops.store 1 [_] hst24 rfl rfl rfl rfl sz9 rfl (by simp [Value.oneCell']) (by simp) (fun w25 hst25 => ?_) | refine Ops.store 2 [_] hst24 rfl rfl rfl rfl sz9 rfl (by simp [Value.oneCell']) (by simp) (fun w25 hst25 => ?_) | refine Ops.store 3 [_] hst24 rfl rfl rfl rfl sz9 rfl (by simp [Value.oneCell']) (by simp) (fun w25 hst25 => ?_)
      refine Ops.nil ?_
      refine Run.seq ?_
      refine Run.seq ?_
      refine Run.region ?_
      refine Ops.fieldAddr rfl Try.underlying30 rfl sz28 rfl ?_
      refine Ops.load rfl Try.underlying28 rfl (by first | exact hst25.cell (i := 0) rfl rfl | exact hst25.cell (i := 1) rfl rfl | exact hst25.cell (i := 2) rfl rfl | exact hst25.cell (i := 3) rfl rfl | assumption) rfl ?_
      refine Ops.eql rfl rfl rfl ?_
      refine Ops.nil ?_
      refine Run.cond rfl (fun hc37 => ?_) (fun hc37 => ?_)
      · skip
        refine Run.region ?_
        refine Ops.move rfl rfl ?_
        first | refine Ops.quoI rfl rfl rfl (by omega) (by omega) (by omega) ?_ | refine Ops.quo rfl rfl rfl (by omega) ?_
        first | refine Ops.remI rfl rfl rfl (by omega) (by omega) ?_ | refine Ops.rem rfl rfl rfl (by omega) ?_
        refine Ops.move rfl rfl ?_
        first | refine Ops.quoI rfl rfl rfl (by omega) (by omega) (by omega) ?_ | refine Ops.quo rfl rfl rfl (by omega) ?_
        first | refine Ops.remI rfl rfl rfl (by omega) (by omega) ?_ | refine Ops.rem rfl rfl rfl (by omega) ?_
        first | refine Ops.addI rfl rfl rfl (by omega) (by omega) ?_ | refine Ops.add rfl rfl rfl ?_
        refine Ops.cutS (i := b / 16 % 4) (j := b / 16 % 4 + 1) rfl Try.underlying9 rfl rfl (by omega) (by omega) (Int.le_trans (by omega : b / 16 % 4 + 1 ≤ 4) (by decide)) rfl ?_
        refine Ops.re 45 rfl (congrArg Value.string (valS_cut (b / 16))) ?_
        refine Ops.fieldAddr rfl Try.underlying30 rfl sz9 rfl ?_
        first | refine Ops.store 0 [_] hst25 rfl rfl rfl rfl sz9 rfl (by simp [Value.oneCell']) (by simp) (fun w26 hst26 => ?_) | refine Ops.store 1 [_] hst25 rfl rfl rfl rfl sz9 rfl (by simp [Value.oneCell']) (by simp) (fun w26 hst26 => ?_) | refine Ops.store 2 [_] hst25 rfl rfl rfl rfl sz9 rfl (by simp [Value.oneCell']) (by simp) (fun w26 hst26 => ?_) | refine Ops.store 3 [_] hst25 rfl rfl rfl rfl sz9 rfl (by simp [Value.oneCell']) (by simp) (fun w26 hst26 => ?_)
        refine Ops.nil ?_
        refine Run.seq ?_
        refine Run.region ?_
        first | refine Ops.loadAgg _ rfl Try.underlying30 rfl sz30 rfl (hst26.cells (i := 0) rfl _ 6) rfl ?_ | refine Ops.loadAgg _ rfl Try.underlying30 rfl sz30 rfl (hst26.cells (i := 1) rfl _ 6) rfl ?_ | refine Ops.loadAgg _ rfl Try.underlying30 rfl sz30 rfl (hst26.cells (i := 2) rfl _ 6) rfl ?_ | refine Ops.loadAgg _ rfl Try.underlying30 rfl sz30 rfl (hst26.cells (i := 3) rfl _ 6) rfl ?_
        first | refine Ops.store 0 _ hst26 rfl rfl rfl rfl sz30 rfl (by simp [Value.oneCell']) (by simp) (fun w27 hst27 => ?_) | refine Ops.store 1 _ hst26 rfl rfl rfl rfl sz30 rfl (by simp [Value.oneCell']) (by simp) (fun w27 hst27 => ?_) | refine Ops.store 2 _ hst26 rfl rfl rfl rfl sz30 rfl (by simp [Value.oneCell']) (by simp) (fun w27 hst27 => ?_) | refine Ops.store 3 _ hst26 rfl rfl rfl rfl sz30 rfl (by simp [Value.oneCell']) (by simp) (fun w27 hst27 => ?_)
        refine Ops.nil ?_
        refine Run.ret _ rfl (fun a ha => resC rfl rfl (run_loadN _ Try.underlying30 rfl sz30 rfl (by first | exact hst27.cells (i := 0) rfl _ 6 | exact hst27.cells (i := 1) rfl _ 6 | exact hst27.cells (i := 2) rfl _ 6 | exact hst27.cells (i := 3) rfl _ 6)) ha) ?_
        refine ⟨congrArg (fun l : List Value => Ending.returned (.agg l.toArray)) ?_, hst27.sub (List.nil_sublist _)⟩
        simp at hc25 hc37
        first | omega | (simp [cmdL, hc25, hc37] at *; try simp [hc25, hc37])
      · skip
        refine Run.skip ?_
        refine Run.seq ?_
        refine Run.region ?_
        first | refine Ops.loadAgg _ rfl Try.underlying30 rfl sz30 rfl (hst25.cells (i := 0) rfl _ 6) rfl ?_ | refine Ops.loadAgg _ rfl Try.underlying30 rfl sz30 rfl (hst25.cells (i := 1) rfl _ 6) rfl ?_ | refine Ops.loadAgg _ rfl Try.underlying30 rfl sz30 rfl (hst25.cells (i := 2) rfl _ 6) rfl ?_ | refine Ops.loadAgg _ rfl Try.underlying30 rfl sz30 rfl (hst25.cells (i := 3) rfl _ 6) rfl ?_
        first | refine Ops.store 0 _ hst25 rfl rfl rfl rfl sz30 rfl (by simp [Value.oneCell']) (by simp) (fun w28 hst28 => ?_) | refine Ops.store 1 _ hst25 rfl rfl rfl rfl sz30 rfl (by simp [Value.oneCell']) (by simp) (fun w28 hst28 => ?_) | refine Ops.store 2 _ hst25 rfl rfl rfl rfl sz30 rfl (by simp [Value.oneCell']) (by simp) (fun w28 hst28 => ?_) | refine Ops.store 3 _ hst25 rfl rfl rfl rfl sz30 rfl (by simp [Value.oneCell']) (by simp) (fun w28 hst28 => ?_)
        refine Ops.nil ?_
        refine Run.ret _ rfl (fun a ha => resC rfl rfl (run_loadN _ Try.underlying30 rfl sz30 rfl (by first | exact hst28.cells (i := 0) rfl _ 6 | exact hst28.cells (i := 1) rfl _ 6 | exact hst28.cells (i := 2) rfl _ 6 | exact hst28.cells (i := 3) rfl _ 6)) ha) ?_
        refine ⟨congrArg (fun l : List Value => Ending.returned (.agg l.toArray)) ?_, hst28.sub (List.nil_sublist _)⟩
        simp at hc25 hc37
        first | omega | (simp [cmdL, hc25, hc37] at *; try simp [hc25, hc37])
    · skip
      refine Run.skip ?_
      refine Run.seq ?_
      refine Run.seq ?_
      refine Run.region ?_
      refine Ops.fieldAddr rfl Try.underlying30 rfl sz28 rfl ?_
      refine Ops.load rfl Try.underlying28 rfl (by first | exact hst24.cell (i := 0) rfl rfl | exact hst24.cell (i := 1) rfl rfl | exact hst24.cell (i := 2) rfl rfl | exact hst24.cell (i := 3) rfl rfl | assumption) rfl ?_
      refine Ops.eql rfl rfl rfl ?_
      refine Ops.nil ?_
      refine Run.cond rfl (fun hc37 => ?_) (fun hc37 => ?_)
      · skip
        refine Run.region ?_
        refine Ops.move rfl rfl ?_
        first | refine Ops.quoI rfl rfl rfl (by omega) (by omega) (by omega) ?_ | refine Ops.quo rfl rfl rfl (by omega) ?_
        first | refine Ops.remI rfl rfl rfl (by omega) (by omega) ?_ | refine Ops.rem rfl rfl rfl (by omega) ?_
        refine Ops.move rfl rfl ?_
        first | refine Ops.quoI rfl rfl rfl (by omega) (by omega) (by omega) ?_ | refine Ops.quo rfl rfl rfl (by omega) ?_
        first | refine Ops.remI rfl rfl rfl (by omega) (by omega) ?_ | refine Ops.rem rfl rfl rfl (by omega) ?_
        first | refine Ops.addI rfl rfl rfl (by omega) (by omega) ?_ | refine Ops.add rfl rfl rfl ?_
        refine Ops.cutS (i := b / 16 % 4) (j := b / 16 % 4 + 1) rfl Try.underlying9 rfl rfl (by omega) (by omega) (Int.le_trans (by omega : b / 16 % 4 + 1 ≤ 4) (by decide)) rfl ?_
        refine Ops.re 45 rfl (congrArg Value.string (valS_cut (b / 16))) ?_
        refine Ops.fieldAddr rfl Try.underlying30 rfl sz9 rfl ?_
        first | refine Ops.store 0 [_] hst24 rfl rfl rfl rfl sz9 rfl (by simp [Value.oneCell']) (by simp) (fun w29 hst29 => ?_) | refine Ops.store 1 [_] hst24 rfl rfl rfl rfl sz9 rfl (by simp [Value.oneCell']) (by simp) (fun w29 hst29 => ?_) | refine Ops.store 2 [_] hst24 rfl rfl rfl rfl sz9 rfl (by simp [Value.oneCell']) (by simp) (fun w29 hst29 => ?_) | refine Ops.store 3 [_] hst24 rfl rfl rfl rfl sz9 rfl (by simp [Value.oneCell']) (by simp) (fun w29 hst29 => ?_)
        refine Ops.nil ?_
        refine Run.seq ?_
        refine Run.region ?_
        first | refine Ops.loadAgg _ rfl Try.underlying30 rfl sz30 rfl (hst29.cells (i := 0) rfl _ 6) rfl ?_ | refine Ops.loadAgg _ rfl Try.underlying30 rfl sz30 rfl (hst29.cells (i := 1) rfl _ 6) rfl ?_ | refine Ops.loadAgg _ rfl Try.underlying30 rfl sz30 rfl (hst29.cells (i := 2) rfl _ 6) rfl ?_ | refine Ops.loadAgg _ rfl Try.underlying30 rfl sz30 rfl (hst29.cells (i := 3) rfl _ 6) rfl ?_
        first | refine Ops.store 0 _ hst29 rfl rfl rfl rfl sz30 rfl (by simp [Value.oneCell']) (by simp) (fun w30 hst30 => ?_) | refine Ops.store 1 _ hst29 rfl rfl rfl rfl sz30 rfl (by simp [Value.oneCell']) (by simp) (fun w30 hst30 => ?_) | refine Ops.store 2 _ hst29 rfl rfl rfl rfl sz30 rfl (by simp [Value.oneCell']) (by simp) (fun w30 hst30 => ?_) | refine Ops.store 3 _ hst29 rfl rfl rfl rfl sz30 rfl (by simp [Value.oneCell']) (by simp) (fun w30 hst30 => ?_)
        refine Ops.nil ?_
        refine Run.ret _ rfl (fun a ha => resC rfl rfl (run_loadN _ Try.underlying30 rfl sz30 rfl (by first | exact hst30.cells (i := 0) rfl _ 6 | exact hst30.cells (i := 1) rfl _ 6 | exact hst30.cells (i := 2) rfl _ 6 | exact hst30.cells (i := 3) rfl _ 6)) ha) ?_
        refine ⟨congrArg (fun l : List Value => Ending.returned (.agg l.toArray)) ?_, hst30.sub (List.nil_sublist _)⟩
        simp at hc25 hc37
        first | omega | (simp [cmdL, hc25, hc37] at *; try simp [hc25, hc37])
      · skip
        refine Run.skip ?_
        refine Run.seq ?_
        refine Run.region ?_
        first | refine Ops.loadAgg _ rfl Try.underlying30 rfl sz30 rfl (hst24.cells (i := 0) rfl _ 6) rfl ?_ | refine Ops.loadAgg _ rfl Try.underlying30 rfl sz30 rfl (hst24.cells (i := 1) rfl _ 6) rfl ?_ | refine Ops.loadAgg _ rfl Try.underlying30 rfl sz30 rfl (hst24.cells (i := 2) rfl _ 6) rfl ?_ | refine Ops.loadAgg _ rfl Try.underlying30 rfl sz30 rfl (hst24.cells (i := 3) rfl _ 6) rfl ?_
        first | refine Ops.store 0 _ hst24 rfl rfl rfl rfl sz30 rfl (by simp [Value.oneCell']) (by simp) (fun w31 hst31 => ?_) | refine Ops.store 1 _ hst24 rfl rfl rfl rfl sz30 rfl (by simp [Value.oneCell']) (by simp) (fun w31 hst31 => ?_) | refine Ops.store 2 _ hst24 rfl rfl rfl rfl sz30 rfl (by simp [Value.oneCell']) (by simp) (fun w31 hst31 => ?_) | refine Ops.store 3 _ hst24 rfl rfl rfl rfl sz30 rfl (by simp [Value.oneCell']) (by simp) (fun w31 hst31 => ?_)
        refine Ops.nil ?_
        refine Run.ret _ rfl (fun a ha => resC rfl rfl (run_loadN _ Try.underlying30 rfl sz30 rfl (by first | exact hst31.cells (i := 0) rfl _ 6 | exact hst31.cells (i := 1) rfl _ 6 | exact hst31.cells (i := 2) rfl _ 6 | exact hst31.cells (i := 3) rfl _ 6)) ha) ?_
        refine ⟨congrArg (fun l : List Value => Ending.returned (.agg l.toArray)) ?_, hst31.sub (List.nil_sublist _)⟩
        simp at hc25 hc37
        first | omega | (simp [cmdL, hc25, hc37] at *; try simp [hc25, hc37])

set_option maxRecDepth 100000 in
set_option maxHeartbeats 2000000 in
theorem act_calls (s : Value) (b0 b1 b2 b3 : Int) (w : World) (h0 : 0 ≤ b0 ∧ b0 < 256) (h1 : 0 ≤ b1 ∧ b1 < 256) (h2 : 0 ≤ b2 ∧ b2 < 256) (h3 : 0 ≤ b3 ∧ b3 < 256) (hr : Rd w 1 s 4 ([b0, b1, b2, b3].map (Value.int .u8))) (hst : St w (fps []) [] w) :
    Calls Try.prog 15 #[s] w fun e w' => e = .returned (.agg (oneL b0 b1 b2 b3).toArray) ∧ St w (fps []) [] w' := by
  obtain ⟨A, c, rfl, hc, hpos⟩ := hr.shape
  obtain ⟨g, o, rfl⟩ := hpos (by omega)
  have hF : ∀ k, (Value.slice (some ⟨g, o, none⟩) 4 c).ownBlock = some k → ¬ fps [] k := fun k _ => fps_nil k
  refine calls_of_run Try.func15 rfl rfl ?_
  refine Run.seq ?_
  refine Run.region ?_
  refine Ops.alloc _ hst zr32 rfl rfl (fun g1 w1 hst1 hg1 => ?_)
  refine Ops.nil ?_
  refine Run.seq ?_
  refine Run.draw (fun w => Rd w 1 (.slice (some ⟨g, o, none⟩) 4 c) 4 ([b0, b1, b2, b3].map (Value.int .u8))) none (by kernel_rfl) (fun w2 hw2 => ?_)
  have hst2 := hst1.idle (drew_fr _)
  rw [← hw2] at hst2
  clear hw2
  have hS : (fun w => Rd w 1 (.slice (some ⟨g, o, none⟩) 4 c) 4 ([b0, b1, b2, b3].map (Value.int .u8))) w2 := hr.later hst2 hF
  refine Any.take 0 rfl rfl rfl rfl (by kernel_rfl) panic_body (Ex.move rfl).s hS ?_
  refine Any.take 1 rfl rfl rfl rfl (by kernel_rfl) panic_body (Ex.indexAddr rfl rfl Try.underlying22 sz5 rfl (by omega) (by omega) rfl).s hS ?_
  refine Any.take 2 rfl rfl rfl rfl (by kernel_rfl) panic_body (ExS.load rfl Try.underlying5 rfl (fun w hS => hS.cell (j := 0) rfl)) hS ?_
  first | refine Any.take 3 rfl rfl rfl rfl (by kernel_rfl) panic_body (Ex.convQ rfl Try.underlying5 Try.underlying3 (wrap_i64_in (by omega) (by omega))).s hS ?_ | refine Any.take 3 rfl rfl rfl rfl (by kernel_rfl) panic_body (Ex.conv rfl Try.underlying5 Try.underlying3).s hS ?_
  first | refine Any.take 4 rfl rfl rfl rfl (by kernel_rfl) panic_body (Ex.remI rfl rfl  (by omega) (by omega)).s hS ?_ | refine Any.take 4 rfl rfl rfl rfl (by kernel_rfl) panic_body (Ex.rem rfl rfl  (by omega)).s hS ?_
  refine Any.take 17 rfl rfl rfl rfl (by kernel_rfl) panic_body (Ex.assign rfl).s hS ?_
  refine Any.take 5 rfl rfl rfl rfl (by kernel_rfl) panic_body (Ex.move rfl).s hS ?_
  refine Any.take 6 rfl rfl rfl rfl (by kernel_rfl) panic_body (Ex.indexAddr rfl rfl Try.underlying22 sz5 rfl (by omega) (by omega) rfl).s hS ?_
  refine Any.take 7 rfl rfl rfl rfl (by kernel_rfl) panic_body (ExS.load rfl Try.underlying5 rfl (fun w hS => hS.cell (j := 1) rfl)) hS ?_
  first | refine Any.take 8 rfl rfl rfl rfl (by kernel_rfl) panic_body (Ex.convQ rfl Try.underlying5 Try.underlying3 (wrap_i64_in (by omega) (by omega))).s hS ?_ | refine Any.take 8 rfl rfl rfl rfl (by kernel_rfl) panic_body (Ex.conv rfl Try.underlying5 Try.underlying3).s hS ?_
  refine Any.take 18 rfl rfl rfl rfl (by kernel_rfl) panic_body (Ex.assign rfl).s hS ?_
  refine Any.take 9 rfl rfl rfl rfl (by kernel_rfl) panic_body (Ex.move rfl).s hS ?_
  refine Any.take 10 rfl rfl rfl rfl (by kernel_rfl) panic_body (Ex.indexAddr rfl rfl Try.underlying22 sz5 rfl (by omega) (by omega) rfl).s hS ?_
  refine Any.take 11 rfl rfl rfl rfl (by kernel_rfl) panic_body (ExS.load rfl Try.underlying5 rfl (fun w hS => hS.cell (j := 2) rfl)) hS ?_
  first | refine Any.take 12 rfl rfl rfl rfl (by kernel_rfl) panic_body (Ex.convQ rfl Try.underlying5 Try.underlying3 (wrap_i64_in (by omega) (by omega))).s hS ?_ | refine Any.take 12 rfl rfl rfl rfl (by kernel_rfl) panic_body (Ex.conv rfl Try.underlying5 Try.underlying3).s hS ?_
  refine Any.take 19 rfl rfl rfl rfl (by kernel_rfl) panic_body (Ex.assign rfl).s hS ?_
  refine Any.take 13 rfl rfl rfl rfl (by kernel_rfl) panic_body (Ex.move rfl).s hS ?_
  refine Any.take 14 rfl rfl rfl rfl (by kernel_rfl) panic_body (Ex.indexAddr rfl rfl Try.underlying22 sz5 rfl (by omega) (by omega) rfl).s hS ?_
  refine Any.take 15 rfl rfl rfl rfl (by kernel_rfl) panic_body (ExS.load rfl Try.underlying5 rfl (fun w hS => hS.cell (j := 3) rfl)) hS ?_
  first | refine Any.take 16 rfl rfl rfl rfl (by kernel_rfl) panic_body (Ex.convQ rfl Try.underlying5 Try.underlying3 (wrap_i64_in (by omega) (by omega))).s hS ?_ | refine Any.take 16 rfl rfl rfl rfl (by kernel_rfl) panic_body (Ex.conv rfl Try.underlying5 Try.underlying3).s hS ?_
  refine Any.take 20 rfl rfl rfl rfl (by kernel_rfl) panic_body (Ex.assign rfl).s hS ?_
  refine Any.done (by kernel_rfl) ?_
  refine Run.seq ?_
  refine Run.seq ?_
  refine Run.region ?_
  refine Ops.move rfl rfl ?_
  refine Ops.eql rfl rfl rfl ?_
  refine Ops.nil ?_
  refine Run.cond rfl (fun hc25 => ?_) (fun hc25 => ?_)
  · skip
    refine Run.seq ?_
    refine Run.region ?_
    refine Ops.move rfl rfl ?_
    first | refine Ops.remI rfl rfl rfl (by omega) (by omega) ?_ | refine Ops.rem rfl rfl rfl (by omega) ?_
    refine Ops.build ([.int .i64 0, .int .i64 (b1 % 3), .int .i64 0, .int .i64 0, .int .i64 0] ++ zeroCmd) rfl Try.underlying32 zr32 (pl32 Try.underlying32) (by kernel_rfl) rfl ?_
    first | refine Ops.store 0 _ hst2 rfl rfl rfl rfl sz32 rfl (by simp [Value.oneCell']) (by simp) (fun w4 hst4 => ?_) | refine Ops.store 1 _ hst2 rfl rfl rfl rfl sz32 rfl (by simp [Value.oneCell']) (by simp) (fun w4 hst4 => ?_)
    refine Ops.nil ?_
    refine Run.ret _ rfl (fun a ha => resC rfl rfl (run_loadN _ Try.underlying32 rfl sz32 rfl (by first | exact hst4.cells (i := 0) rfl _ 11 | exact hst4.cells (i := 1) rfl _ 11)) ha) ?_
    refine ⟨congrArg (fun l : List Value => Ending.returned (.agg l.toArray)) ?_, hst4.sub (List.nil_sublist _)⟩
    simp only [beq_iff_eq, beq_eq_false_iff_ne, ne_eq, decide_eq_true_eq, decide_eq_false_iff_not] at *
    unfold oneL
    repeat (first | rw [if_pos (by omega)] | rw [if_neg (by omega)])
    first | done | rfl | (rcases (by omega : b0 % 16 = 11 ∨ b0 % 16 = 12) with h | h <;> rw [h] <;> rfl)
  · skip
    refine Run.skip ?_
    refine Run.seq ?_
    refine Run.seq ?_
    refine Run.region ?_
    refine Ops.move rfl rfl ?_
    refine Ops.lss rfl rfl rfl ?_
    refine Ops.nil ?_
    refine Run.cond rfl (fun hc30 => ?_) (fun hc30 => ?_)
    · skip
      refine Run.seq ?_
      refine Run.region ?_
      refine Ops.move rfl rfl ?_
      first | refine Ops.remI rfl rfl rfl (by omega) (by omega) ?_ | refine Ops.rem rfl rfl rfl (by omega) ?_
      refine Ops.build ([.int .i64 1, .int .i64 (b1 % 3), .int .i64 0, .int .i64 0, .int .i64 0] ++ zeroCmd) rfl Try.underlying32 zr32 (pl32 Try.underlying32) (by kernel_rfl) rfl ?_
      first | refine Ops.store 0 _ hst2 rfl rfl rfl rfl sz32 rfl (by simp [Value.oneCell']) (by simp) (fun w6 hst6 => ?_) | refine Ops.store 1 _ hst2 rfl rfl rfl rfl sz32 rfl (by simp [Value.oneCell']) (by simp) (fun w6 hst6 => ?_)
      refine Ops.nil ?_
      refine Run.ret _ rfl (fun a ha => resC rfl rfl (run_loadN _ Try.underlying32 rfl sz32 rfl (by first | exact hst6.cells (i := 0) rfl _ 11 | exact hst6.cells (i := 1) rfl _ 11)) ha) ?_
      refine ⟨congrArg (fun l : List Value => Ending.returned (.agg l.toArray)) ?_, hst6.sub (List.nil_sublist _)⟩
      simp only [beq_iff_eq, beq_eq_false_iff_ne, ne_eq, decide_eq_true_eq, decide_eq_false_iff_not] at *
      unfold oneL
      repeat (first | rw [if_pos (by omega)] | rw [if_neg (by omega)])
      first | done | rfl | (rcases (by omega : b0 % 16 = 11 ∨ b0 % 16 = 12) with h | h <;> rw [h] <;> rfl)
    · skip
      refine Run.skip ?_
      refine Run.seq ?_
      refine Run.seq ?_
      refine Run.region ?_
      refine Ops.move rfl rfl ?_
      refine Ops.lss rfl rfl rfl ?_
      refine Ops.nil ?_
      refine Run.cond rfl (fun hc35 => ?_) (fun hc35 => ?_)
      · skip
        refine Run.seq ?_
        refine Run.region ?_
        refine Ops.move rfl rfl ?_
        first | refine Ops.remI rfl rfl rfl (by omega) (by omega) ?_ | refine Ops.rem rfl rfl rfl (by omega) ?_
        refine Ops.move rfl rfl ?_
        refine Ops.move rfl rfl ?_
        refine Ops.call rfl rfl Try.func34 (by kernel_rfl) (by kernel_rfl) rfl (cmd2_calls b2 b3 _ (by omega) (by omega) (by omega) (by omega) (St.nil _ _)) ?_
        rintro x wq ⟨rfl, hq⟩
        have hstq := hst2.after0 hq
        refine ⟨_, rfl, ?_⟩ --ST hstq
        refine Ops.build ([.int .i64 2, .int .i64 (b1 % 3), .int .i64 0, .int .i64 0, .int .i64 0] ++ cmdL b2 b3) rfl Try.underlying32 zr32 (pl32 Try.underlying32) (by kernel_rfl) rfl ?_
        refine Ops.store 0 _ hstq rfl rfl rfl rfl sz32 rfl (by simp [Value.oneCell', cmdL]) (by simp [cmdL]) (fun wz hstz => ?_) --ST hstz
        refine Ops.nil ?_
        refine Run.ret _ rfl (fun a ha => resC rfl rfl (run_loadN _ Try.underlying32 rfl sz32 rfl (by first | exact hstz.cells (i := 0) rfl _ 11 | exact hstz.cells (i := 1) rfl _ 11)) ha) ?_
        refine ⟨congrArg (fun l : List Value => Ending.returned (.agg l.toArray)) ?_, hstz.sub (List.nil_sublist _)⟩
        simp only [beq_iff_eq, beq_eq_false_iff_ne, ne_eq, decide_eq_true_eq, decide_eq_false_iff_not] at *
        unfold oneL
        repeat (first | rw [if_pos (by omega)] | rw [if_neg (by omega)])
        first | done | rfl | (rcases (by omega : b0 % 16 = 11 ∨ b0 % 16 = 12) with h | h <;> rw [h] <;> rfl)
      · skip
        refine Run.skip ?_
        refine Run.seq ?_
        refine Run.seq ?_
        refine Run.region ?_
        refine Ops.move rfl rfl ?_
        refine Ops.lss rfl rfl rfl ?_
        refine Ops.nil ?_
        refine Run.cond rfl (fun hc43 => ?_) (fun hc43 => ?_)
        · skip
          refine Run.seq ?_
          refine Run.region ?_
          refine Ops.move rfl rfl ?_
          refine Ops.build ([.int .i64 3, .int .i64 0, .int .i64 b1, .int .i64 0, .int .i64 0] ++ zeroCmd) rfl Try.underlying32 zr32 (pl32 Try.underlying32) (by kernel_rfl) rfl ?_
          first | refine Ops.store 0 _ hst2 rfl rfl rfl rfl sz32 rfl (by simp [Value.oneCell']) (by simp) (fun w9 hst9 => ?_) | refine Ops.store 1 _ hst2 rfl rfl rfl rfl sz32 rfl (by simp [Value.oneCell']) (by simp) (fun w9 hst9 => ?_)
          refine Ops.nil ?_
          refine Run.ret _ rfl (fun a ha => resC rfl rfl (run_loadN _ Try.underlying32 rfl sz32 rfl (by first | exact hst9.cells (i := 0) rfl _ 11 | exact hst9.cells (i := 1) rfl _ 11)) ha) ?_
          refine ⟨congrArg (fun l : List Value => Ending.returned (.agg l.toArray)) ?_, hst9.sub (List.nil_sublist _)⟩
          simp only [beq_iff_eq, beq_eq_false_iff_ne, ne_eq, decide_eq_true_eq, decide_eq_false_iff_not] at *
          unfold oneL
          repeat (first | rw [if_pos (by omega)] | rw [if_neg (by omega)])
          first | done | rfl | (rcases (by omega : b0 % 16 = 11 ∨ b0 % 16 = 12) with h | h <;> rw [h] <;> rfl)
        · skip
          refine Run.skip ?_
          refine Run.seq ?_
          refine Run.seq ?_
          refine Run.region ?_
          refine Ops.move rfl rfl ?_
          refine Ops.lss rfl rfl rfl ?_
          refine Ops.nil ?_
          refine Run.cond rfl (fun hc47 => ?_) (fun hc47 => ?_)
          · skip
            refine Run.seq ?_
            refine Run.region ?_
            refine Ops.move rfl rfl ?_
            first | refine Ops.subI rfl rfl rfl (by omega) (by omega) ?_ | refine Ops.sub rfl rfl rfl ?_
            first | refine Ops.addI rfl rfl rfl (by omega) (by omega) ?_ | refine Ops.add rfl rfl rfl ?_
            refine Ops.move rfl rfl ?_
            refine Ops.build ([.int .i64 (4 + (b0 % 16 - 11)), .int .i64 0, .int .i64 b1, .int .i64 0, .int .i64 0] ++ zeroCmd) rfl Try.underlying32 zr32 (pl32 Try.underlying32) (by kernel_rfl) rfl ?_
            first | refine Ops.store 0 _ hst2 rfl rfl rfl rfl sz32 rfl (by simp [Value.oneCell']) (by simp) (fun w11 hst11 => ?_) | refine Ops.store 1 _ hst2 rfl rfl rfl rfl sz32 rfl (by simp [Value.oneCell']) (by simp) (fun w11 hst11 => ?_)
            refine Ops.nil ?_
            refine Run.ret _ rfl (fun a ha => resC rfl rfl (run_loadN _ Try.underlying32 rfl sz32 rfl (by first | exact hst11.cells (i := 0) rfl _ 11 | exact hst11.cells (i := 1) rfl _ 11)) ha) ?_
            refine ⟨congrArg (fun l : List Value => Ending.returned (.agg l.toArray)) ?_, hst11.sub (List.nil_sublist _)⟩
            simp only [beq_iff_eq, beq_eq_false_iff_ne, ne_eq, decide_eq_true_eq, decide_eq_false_iff_not] at *
            unfold oneL
            repeat (first | rw [if_pos (by omega)] | rw [if_neg (by omega)])
            first | done | rfl | (rcases (by omega : b0 % 16 = 11 ∨ b0 % 16 = 12) with h | h <;> rw [h] <;> rfl)
          · skip
            refine Run.skip ?_
            refine Run.seq ?_
            refine Run.seq ?_
            refine Run.region ?_
            refine Ops.move rfl rfl ?_
            refine Ops.lss rfl rfl rfl ?_
            refine Ops.nil ?_
            refine Run.cond rfl (fun hc54 => ?_) (fun hc54 => ?_)
            · skip
              refine Run.seq ?_
              refine Run.region ?_
              refine Ops.move rfl rfl ?_
              first | refine Ops.remI rfl rfl rfl (by omega) (by omega) ?_ | refine Ops.rem rfl rfl rfl (by omega) ?_
              refine Ops.move rfl rfl ?_
              first | refine Ops.remI rfl rfl rfl (by omega) (by omega) ?_ | refine Ops.rem rfl rfl rfl (by omega) ?_
              refine Ops.move rfl rfl ?_
              refine Ops.build ([.int .i64 6, .int .i64 (b1 % 3), .int .i64 b3, .int .i64 0, .int .i64 (b2 % 7)] ++ zeroCmd) rfl Try.underlying32 zr32 (pl32 Try.underlying32) (by kernel_rfl) rfl ?_
              first | refine Ops.store 0 _ hst2 rfl rfl rfl rfl sz32 rfl (by simp [Value.oneCell']) (by simp) (fun w13 hst13 => ?_) | refine Ops.store 1 _ hst2 rfl rfl rfl rfl sz32 rfl (by simp [Value.oneCell']) (by simp) (fun w13 hst13 => ?_)
              refine Ops.nil ?_
              refine Run.ret _ rfl (fun a ha => resC rfl rfl (run_loadN _ Try.underlying32 rfl sz32 rfl (by first | exact hst13.cells (i := 0) rfl _ 11 | exact hst13.cells (i := 1) rfl _ 11)) ha) ?_
              refine ⟨congrArg (fun l : List Value => Ending.returned (.agg l.toArray)) ?_, hst13.sub (List.nil_sublist _)⟩
              simp only [beq_iff_eq, beq_eq_false_iff_ne, ne_eq, decide_eq_true_eq, decide_eq_false_iff_not] at *
              unfold oneL
              repeat (first | rw [if_pos (by omega)] | rw [if_neg (by omega)])
              first | done | rfl | (rcases (by omega : b0 % 16 = 11 ∨ b0 % 16 = 12) with h | h <;> rw [h] <;> rfl)
            · skip
              refine Run.skip ?_
              refine Run.seq ?_
              refine Run.region ?_
              refine Ops.move rfl rfl ?_
              first | refine Ops.remI rfl rfl rfl (by omega) (by omega) ?_ | refine Ops.rem rfl rfl rfl (by omega) ?_
              refine Ops.move rfl rfl ?_
              first | refine Ops.remI rfl rfl rfl (by omega) (by omega) ?_ | refine Ops.rem rfl rfl rfl (by omega) ?_
              refine Ops.move rfl rfl ?_
              refine Ops.build ([.int .i64 7, .int .i64 (b1 % 3), .int .i64 (b2 % 24), .int .i64 b3, .int .i64 0] ++ zeroCmd) rfl Try.underlying32 zr32 (pl32 Try.underlying32) (by kernel_rfl) rfl ?_
              first | refine Ops.store 0 _ hst2 rfl rfl rfl rfl sz32 rfl (by simp [Value.oneCell']) (by simp) (fun w15 hst15 => ?_) | refine Ops.store 1 _ hst2 rfl rfl rfl rfl sz32 rfl (by simp [Value.oneCell']) (by simp) (fun w15 hst15 => ?_)
              refine Ops.nil ?_
              refine Run.ret _ rfl (fun a ha => resC rfl rfl (run_loadN _ Try.underlying32 rfl sz32 rfl (by first | exact hst15.cells (i := 0) rfl _ 11 | exact hst15.cells (i := 1) rfl _ 11)) ha) ?_
              refine ⟨congrArg (fun l : List Value => Ending.returned (.agg l.toArray)) ?_, hst15.sub (List.nil_sublist _)⟩
              simp only [beq_iff_eq, beq_eq_false_iff_ne, ne_eq, decide_eq_true_eq, decide_eq_false_iff_not] at *
              unfold oneL
              repeat (first | rw [if_pos (by omega)] | rw [if_neg (by omega)])
              first | done | rfl | (rcases (by omega : b0 % 16 = 11 ∨ b0 % 16 = 12) with h | h <;> rw [h] <;> rfl)

set_option maxRecDepth 100000 in
set_option maxHeartbeats 2000000 in
theorem actsLaw_calls (s : Value) (bs : List Int) (w : World) (hb : Bytes bs) (hm : bs.length ≤ 1048576) (hr : Rd w 1 s bs.length (bs.map (Value.int .u8))) :
    Calls Try.prog 3 #[s] w fun e w' => e = .returned (.bool true) ∧ St w (fps []) [] w' := by
  have hst : St w (fps []) [] w := St.nil _ _
  obtain ⟨A0, c0, rfl, hl0, -⟩ := hr.shape
  refine calls_of_run Try.func3 rfl rfl ?_
  refine Run.seq ?_
  refine Run.region ?_
  refine Ops.assign rfl rfl ?_
  refine Ops.nil ?_
  refine Run.seq ?_
  refine Run.seq ?_
  refine Run.region ?_
  refine Ops.call rfl rfl Try.func13 (by kernel_rfl) (by kernel_rfl) rfl (awake_calls _ (St.nil _ _)) ?_
  rintro x w2 ⟨rfl, hq⟩
  have hst2 := hst.after0 hq
  refine ⟨_, rfl, ?_⟩ --ST hst2
  refine Ops.not rfl rfl ?_
  refine Ops.nil ?_
  refine Run.condF rfl (rfl) ?_
  refine Run.skip ?_
  refine Run.seq ?_
  refine Run.region ?_
  refine Ops.move rfl rfl ?_
  refine Ops.call rfl rfl Try.func14 (by kernel_rfl) (by kernel_rfl) rfl (acts_calls _ bs _ hb (by omega) (hr.later hst2 (fun k _ => fps_nil k)) (St.nil _ _)) ?_
  rintro x w3 ⟨v, rfl, hq⟩
  have hst3 := hst2.back (H1 := []) hq
  obtain ⟨A, c, rfl, hc, hpos⟩ := (hst3.rd (i := 0) rfl).shape
  refine ⟨_, rfl, ?_⟩ --ST hst3
  refine Ops.assign rfl rfl ?_
  refine Ops.nil ?_
  refine Run.seq ?_
  refine Run.seq ?_
  refine Run.region ?_
  refine Ops.move rfl rfl ?_
  refine Ops.len rfl rfl rfl Try.underlying24 rfl ?_
  refine Ops.move rfl rfl ?_
  refine Ops.len rfl rfl rfl Try.underlying22 rfl ?_
  first | refine Ops.quoI rfl rfl rfl (by omega) (by omega) (by omega) ?_ | refine Ops.quo rfl rfl rfl (by omega) ?_
  refine Ops.neq rfl rfl rfl ?_
  refine Ops.nil ?_
  refine Run.condF rfl ((by simp)) ?_
  refine Run.skip ?_
  refine Run.seq ?_
  refine Run.seq ?_
  refine Run.region ?_
  refine Ops.move rfl rfl ?_
  refine Ops.len rfl rfl rfl Try.underlying24 rfl ?_
  refine Ops.move rfl rfl ?_
  refine Ops.nil ?_
  refine Run.block ?_
  refine Run.sub (e' := [(0, .slice A0 bs.length c0), (16, .slice A (bs.length / 4) c), (17, .int .i64 ((bs.length / 4 : Nat) : Int)), (18, .int .i64 0)]) (subB_spec ⟨rfl, rfl, rfl, rfl, trivial⟩) ?_
  refine Run.loop (fun fuel e' w' => ∃ i : Nat, e' = [(0, .slice A0 bs.length c0), (16, .slice A (bs.length / 4) c), (17, .int .i64 ((bs.length / 4 : Nat) : Int)), (18, .int .i64 (i : Int))] ∧ i ≤ bs.length / 4 ∧ fuel = bs.length / 4 - i ∧ St w (fps []) [orow 32 11 (.slice A (bs.length / 4) c) (bs.length / 4) (actsL (bs.length / 4) bs)] w') (bs.length / 4) ⟨0, rfl, by omega, by omega, hst3⟩ ?_
  rintro fuel e' w4 ⟨i, rfl, hi, rfl, hst4⟩ --ST hst4
  refine Run.seq ?_
  refine Run.region ?_
  refine Ops.lss rfl rfl rfl ?_
  refine Ops.nil ?_
  refine Run.seq ?_
  refine Run.cond rfl (fun hc19 => ?_) (fun hc19 => ?_)
  · skip
    have hlt : i < bs.length / 4 := by have := of_decide_eq_true hc19; omega
    obtain ⟨g, o, rfl⟩ := hpos (by omega)
    obtain ⟨b0, b1, b2, b3, r, hbr⟩ := four_of (l := bs.drop (4 * i)) (by simp; omega)
    have hbb : ∀ x ∈ b0 :: b1 :: b2 :: b3 :: r, 0 ≤ x ∧ x < 256 := fun x hx => hb x (List.mem_of_mem_drop (hbr ▸ hx))
    obtain ⟨k, y, x2, e0, x4, x5, x6, x7, x8, x9, x10, hone⟩ := oneAt_any (bs.drop (4 * i))
    have hat : ((actsL (bs.length / 4) bs).drop (i * 11)).take 11 = [.int .i64 k, .int .i64 y, .int .i64 x2, .int .i64 e0, .int .i64 x4, .int .i64 x5, .int .i64 x6, .int .i64 x7, .string x8, .string x9, .string x10] := by rw [actsL_at bs hlt]; exact hone
    rw [hbr] at hone
    have hel := (hst4.rd (i := 0) rfl).elem hat
    obtain ⟨s4, hs4⟩ : ∃ s4, s4 = Value.slice (if c0 = 4 * i then A0 else A0.map (·.add (4 * i * 1))) (4 * i + 4 - 4 * i) (c0 - 4 * i) := ⟨_, rfl⟩
    have hv4 : Value.slice (if c0 = (4 * (i : Int)).toNat then A0 else A0.map (·.add ((4 * (i : Int)).toNat * 1))) ((4 * (i : Int) + 4).toNat - (4 * (i : Int)).toNat) (c0 - (4 * (i : Int)).toNat) = s4 := by rw [hs4, show (4 * (i : Int)).toNat = 4 * i from by omega, show (4 * (i : Int) + 4).toNat = 4 * i + 4 from by omega]
    have hR4 : Rd w 1 s4 4 ([b0, b1, b2, b3].map (Value.int .u8)) := by
      have h := hr.cutv (4 * i) (4 * i + 4) (by omega) (by omega) hl0
      rw [← hs4, ← List.map_drop, ← List.map_take, Nat.mul_one, Nat.mul_one, hbr, show 4 * i + 4 - 4 * i = 4 from by omega] at h
      exact h
    refine Run.skip ?_
    refine Run.seq ?_
    refine Run.block ?_
    refine Run.seq ?_
    refine Run.region ?_
    refine Ops.move rfl rfl ?_
    refine Ops.indexAddr (j := i * 11) rfl rfl Try.underlying24 sz32 rfl (by omega) (by omega) (by first | rfl | (simp; done) | (simp; omega) | omega) rfl ?_
    refine Ops.loadAgg [.int .i64 k, .int .i64 y, .int .i64 x2, .int .i64 e0, .int .i64 x4, .int .i64 x5, .int .i64 x6, .int .i64 x7, .string x8, .string x9, .string x10] rfl Try.underlying32 rfl sz32 rfl hel rfl ?_
    refine Ops.alloc _ hst4 zr32 rfl rfl (fun gA wA hstA hgA => ?_) --ST hstA
    refine Ops.assign rfl rfl ?_
    first | refine Ops.store 0 [.int .i64 k, .int .i64 y, .int .i64 x2, .int .i64 e0, .int .i64 x4, .int .i64 x5, .int .i64 x6, .int .i64 x7, .string x8, .string x9, .string x10] hstA rfl rfl rfl rfl sz32 rfl (by simp [Value.oneCell']) (by simp) (fun w1 hst1 => ?_) | refine Ops.store 1 [.int .i64 k, .int .i64 y, .int .i64 x2, .int .i64 e0, .int .i64 x4, .int .i64 x5, .int .i64 x6, .int .i64 x7, .string x8, .string x9, .string x10] hstA rfl rfl rfl rfl sz32 rfl (by simp [Value.oneCell']) (by simp) (fun w1 hst1 => ?_)
    refine Ops.nil ?_
    refine Run.seq ?_
    refine Run.draw (fun w => ∀ j v, ([.int .i64 k, .int .i64 y, .int .i64 x2, .int .i64 e0, .int .i64 x4, .int .i64 x5, .int .i64 x6, .int .i64 x7, .string x8, .string x9, .string x10] : List Value)[j]? = some v → w.cell? ((⟨gA, 0, none⟩ : Addr).add j) = some v) none (by kernel_rfl) (fun w2 hw2 => ?_)
    have hst2 := hst1.idle (drew_fr _)
    rw [← hw2] at hst2
    clear hw2
    have hS : (fun w => ∀ j v, ([.int .i64 k, .int .i64 y, .int .i64 x2, .int .i64 e0, .int .i64 x4, .int .i64 x5, .int .i64 x6, .int .i64 x7, .string x8, .string x9, .string x10] : List Value)[j]? = some v → w.cell? ((⟨gA, 0, none⟩ : Addr).add j) = some v) w2 := hst2.cells (i := 1) rfl 0 11
    refine Any.take 0 rfl rfl rfl rfl (by kernel_rfl) panic_body (ExS.loadAgg [.int .i64 k, .int .i64 y, .int .i64 x2, .int .i64 e0, .int .i64 x4, .int .i64 x5, .int .i64 x6, .int .i64 x7, .string x8, .string x9, .string x10] rfl Try.underlying32 rfl sz32 rfl (fun w hS => hS)) hS ?_
    refine Any.take 1 rfl rfl rfl rfl (by kernel_rfl) panic_body (Ex.move rfl).s hS ?_
    refine Any.take 2 rfl rfl rfl rfl (by kernel_rfl) panic_body (Ex.move rfl).s hS ?_
    first | refine Any.take 3 rfl rfl rfl rfl (by kernel_rfl) panic_body (Ex.mulI rfl rfl  (by omega) (by omega)).s hS ?_ | refine Any.take 3 rfl rfl rfl rfl (by kernel_rfl) panic_body (Ex.mul rfl rfl).s hS ?_
    refine Any.take 4 rfl rfl rfl rfl (by kernel_rfl) panic_body (Ex.move rfl).s hS ?_
    first | refine Any.take 5 rfl rfl rfl rfl (by kernel_rfl) panic_body (Ex.mulI rfl rfl  (by omega) (by omega)).s hS ?_ | refine Any.take 5 rfl rfl rfl rfl (by kernel_rfl) panic_body (Ex.mul rfl rfl).s hS ?_
    first | refine Any.take 6 rfl rfl rfl rfl (by kernel_rfl) panic_body (Ex.addI rfl rfl  (by omega) (by omega)).s hS ?_ | refine Any.take 6 rfl rfl rfl rfl (by kernel_rfl) panic_body (Ex.add rfl rfl).s hS ?_
    refine Any.take 7 rfl rfl rfl rfl (by kernel_rfl) panic_body (Ex.eq (Ex.cut (i := 4 * (i : Int)) (j := 4 * (i : Int) + 4) rfl Try.underlying22 sz5 rfl rfl (by omega) (by omega) (by omega)) hv4).s hS ?_
    refine Any.one 8 (by kernel_rfl) rfl rfl (One.of_ops rfl ?_)
    refine Ops.call rfl rfl Try.func15 (by kernel_rfl) (by kernel_rfl) rfl (act_calls s4 b0 b1 b2 b3 _ (hbb _ (by simp)) (hbb _ (by simp)) (hbb _ (by simp)) (hbb _ (by simp)) (hR4.later hst2 (fun k _ => fps_nil k)) (St.nil _ _)) ?_
    rintro x wq ⟨hx, hq⟩
    rw [show oneL b0 b1 b2 b3 = [.int .i64 k, .int .i64 y, .int .i64 x2, .int .i64 e0, .int .i64 x4, .int .i64 x5, .int .i64 x6, .int .i64 x7, .string x8, .string x9, .string x10] from hone] at hx
    subst hx
    have hstq := hst2.after0 hq
    have hS := hstq.cells (i := 1) rfl 0 11
    refine ⟨_, rfl, Ops.stop ⟨.inr hS, ?_⟩⟩ --ST hstq
    refine Any.take 9 rfl rfl rfl rfl (by kernel_rfl) panic_body (Ex.neqR rfl rfl (eqr32 9997 _ _ _ _ _ _ _ _ _ _ _) (by kernel_rfl)).s hS ?_
    refine Any.done (by kernel_rfl) ?_
    refine Run.condF rfl (rfl) ?_
    refine Run.skip ?_
    refine Run.endBlk ?_
    refine Run.region ?_
    first | refine Ops.addI rfl rfl rfl (by omega) (by omega) ?_ | refine Ops.add rfl rfl rfl ?_
    refine Ops.move rfl rfl ?_
    refine Ops.nil ?_
    refine Run.sub (e' := [(0, .slice A0 bs.length c0), (16, .slice (some ⟨g, o, none⟩) (bs.length / 4) c), (17, .int .i64 ((bs.length / 4 : Nat) : Int)), (18, .int .i64 ((i + 1 : Nat) : Int))]) (subB_spec ⟨rfl, rfl, rfl, rfl, trivial⟩) (Run.stop ⟨bs.length / 4 - (i + 1), by omega, i + 1, rfl, by omega, rfl, hstq.sub (List.Sublist.cons_cons _ (List.nil_sublist _))⟩)
  · skip
    refine Run.exit _ rfl ?_
    refine Run.seq ?_
    refine Run.region ?_
    refine Ops.assign rfl rfl ?_
    refine Ops.nil ?_
    refine Run.ret _ rfl (fun a ha => res1 rfl rfl ha) ?_
    exact ⟨rfl, hst4.sub (List.nil_sublist _)⟩

end Go.Proofs.Ytiijlkebolfcpaa.Script6
