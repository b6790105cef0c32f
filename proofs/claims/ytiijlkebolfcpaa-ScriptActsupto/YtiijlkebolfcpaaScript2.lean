/- Script: walks. -/
import Derived.Test.YtiijlkebolfcpaaScript1
namespace Go.Proofs.Ytiijlkebolfcpaa.Script2
open Go Go.RowKit Go.Proofs.Ytiijlkebolfcpaa.Sx Go.Proofs.Ytiijlkebolfcpaa.Script
set_option linter.unusedVariables false
set_option linter.unusedSimpArgs false
theorem sz3 : (Try.prog.info? 3).map (·.size) = some 1 := by kernel_rfl
theorem sz5 : (Try.prog.info? 5).map (·.size) = some 1 := by kernel_rfl
theorem sz9 : (Try.prog.info? 9).map (·.size) = some 1 := by kernel_rfl
theorem sz26 : (Try.prog.info? 26).map (·.size) = some 1 := by kernel_rfl
theorem sz28 : (Try.prog.info? 28).map (·.size) = some 1 := by kernel_rfl
theorem sz30 : (Try.prog.info? 30).map (·.size) = some 6 := by kernel_rfl
theorem sz32 : (Try.prog.info? 32).map (·.size) = some 11 := by kernel_rfl
theorem zr5 : (Try.prog.info? 5).map (·.zero) = some (some (.int .u8 0)) := by kernel_rfl
theorem zr26 : (Try.prog.info? 26).map (·.zero) = some (some (.int .i64 0)) := by kernel_rfl

abbrev awakeB : List Int := [0, 4, 0, 0, 4, 0, 2, 37, 9]
abbrev awakeC : List Value := [.int .i64 0, .int .i64 1, .int .i64 0, .int .i64 0, .int .i64 0] ++ zeroCmd ++ [.int .i64 2, .int .i64 0, .int .i64 0, .int .i64 0, .int .i64 0, .int .i64 3, .int .i64 0, .int .i64 0, .string ⟨#[98]⟩, .string ⟨#[49]⟩, .string ⟨#[50]⟩]
theorem awake_cells : actsL 2 awakeB = awakeC := by
  have h1 : oneAt (awakeB.drop (4 * 0)) = [.int .i64 0, .int .i64 1, .int .i64 0, .int .i64 0, .int .i64 0] ++ zeroCmd := rfl
  have h2 : oneAt (awakeB.drop (4 * 1)) = [.int .i64 2, .int .i64 0, .int .i64 0, .int .i64 0, .int .i64 0, .int .i64 3, .int .i64 0, .int .i64 0, .string ⟨#[98]⟩, .string ⟨#[49]⟩, .string ⟨#[50]⟩] := by kernel_rfl
  show actsL (0 + 1 + 1) awakeB = _
  rw [actsL_succ, actsL_succ, h1, h2]
  rfl

set_option maxRecDepth 100000 in
set_option maxHeartbeats 2000000 in
theorem awake_calls (w : World) (hst : St w (fps []) [] w) :
    Calls Try.prog 13 #[] w fun e w' => e = .returned (.bool true) ∧ St w (fps []) [] w' := by
  refine calls_of_run Try.func13 rfl rfl ?_
  refine Run.seq ?_
  refine Run.region ?_
  refine Ops.assign rfl rfl ?_
  refine Ops.nil ?_
  refine Run.seq ?_
  refine Run.region ?_
  refine Ops.buildSlice (awakeB.map (Value.int .u8)) hst rfl Try.underlying22 sz5 zr5 rfl rfl (by kernel_rfl) rfl (fun g1 w1 hst1 hg1 => ?_)
  refine Ops.call rfl rfl Try.func14 (by kernel_rfl) (by kernel_rfl) rfl (acts_calls _ awakeB _ (by simp [Bytes, awakeB]) (by simp [awakeB]) (Rd_of_blk hst1 (i := 0) rfl rfl (by simp [Value.oneCell'])) (St.nil _ _)) ?_
  rintro x w2 ⟨v, rfl, hq⟩
  rw [show awakeB.length / 4 = 2 from rfl, awake_cells] at hq
  have hst2 := hst1.back (H1 := []) hq
  obtain ⟨A, c, rfl, hc, hpos⟩ := (hst2.rd (i := 0) rfl).shape
  obtain ⟨g, o, rfl⟩ := hpos (by omega)
  refine ⟨_, rfl, ?_⟩ --ST hst2
  refine Ops.assign rfl rfl ?_
  refine Ops.nil ?_
  refine Run.seq ?_
  refine Run.region ?_
  refine Ops.move rfl rfl ?_
  refine Ops.len rfl rfl rfl Try.underlying24 rfl ?_
  refine Ops.eql rfl rfl rfl ?_
  refine Ops.move rfl rfl ?_
  first | refine Ops.on rfl ?_ | refine Ops.off rfl rfl ?_
  refine Ops.move rfl rfl ?_
  first | refine Ops.on rfl ?_ | refine Ops.off rfl rfl ?_
  refine Ops.indexAddr rfl rfl Try.underlying24 sz32 rfl (by omega) (by omega) rfl rfl ?_
  first | refine Ops.on rfl ?_ | refine Ops.off rfl rfl ?_
  refine Ops.fieldAddr rfl Try.underlying32 rfl sz3 rfl ?_
  first | refine Ops.on rfl ?_ | refine Ops.off rfl rfl ?_
  refine Ops.load rfl Try.underlying3 rfl (by first | exact hst2.cell (i := 0) rfl rfl | exact (hst2.rd (i := 0) rfl).cell (j := 1) rfl | exact (hst2.rd (i := 0) rfl).cell (j := 11) rfl | exact (hst2.rd (i := 0) rfl).cell (j := 16) rfl | exact (hst2.rd (i := 0) rfl).cell (j := 19) rfl | exact (hst2.rd (i := 0) rfl).cell (j := 21) rfl | assumption) rfl ?_
  first | refine Ops.on rfl ?_ | refine Ops.off rfl rfl ?_
  refine Ops.eql rfl rfl rfl ?_
  first | refine Ops.pickT rfl rfl rfl ?_ | refine Ops.pickF rfl rfl rfl ?_
  refine Ops.move rfl rfl ?_
  first | refine Ops.on rfl ?_ | refine Ops.off rfl rfl ?_
  refine Ops.move rfl rfl ?_
  first | refine Ops.on rfl ?_ | refine Ops.off rfl rfl ?_
  refine Ops.indexAddr rfl rfl Try.underlying24 sz32 rfl (by omega) (by omega) rfl rfl ?_
  first | refine Ops.on rfl ?_ | refine Ops.off rfl rfl ?_
  refine Ops.fieldAddr rfl Try.underlying32 rfl sz26 rfl ?_
  first | refine Ops.on rfl ?_ | refine Ops.off rfl rfl ?_
  refine Ops.load rfl Try.underlying26 rfl (by first | exact hst2.cell (i := 0) rfl rfl | exact (hst2.rd (i := 0) rfl).cell (j := 1) rfl | exact (hst2.rd (i := 0) rfl).cell (j := 11) rfl | exact (hst2.rd (i := 0) rfl).cell (j := 16) rfl | exact (hst2.rd (i := 0) rfl).cell (j := 19) rfl | exact (hst2.rd (i := 0) rfl).cell (j := 21) rfl | assumption) rfl ?_
  first | refine Ops.on rfl ?_ | refine Ops.off rfl rfl ?_
  refine Ops.eql rfl rfl rfl ?_
  first | refine Ops.pickT rfl rfl rfl ?_ | refine Ops.pickF rfl rfl rfl ?_
  refine Ops.move rfl rfl ?_
  first | refine Ops.on rfl ?_ | refine Ops.off rfl rfl ?_
  refine Ops.move rfl rfl ?_
  first | refine Ops.on rfl ?_ | refine Ops.off rfl rfl ?_
  refine Ops.indexAddr rfl rfl Try.underlying24 sz32 rfl (by omega) (by omega) rfl rfl ?_
  first | refine Ops.on rfl ?_ | refine Ops.off rfl rfl ?_
  refine Ops.fieldAddr rfl Try.underlying32 rfl sz30 rfl ?_
  first | refine Ops.on rfl ?_ | refine Ops.off rfl rfl ?_
  refine Ops.fieldAddr rfl Try.underlying30 rfl sz28 rfl ?_
  first | refine Ops.on rfl ?_ | refine Ops.off rfl rfl ?_
  refine Ops.load rfl Try.underlying28 rfl (by first | exact hst2.cell (i := 0) rfl rfl | exact (hst2.rd (i := 0) rfl).cell (j := 1) rfl | exact (hst2.rd (i := 0) rfl).cell (j := 11) rfl | exact (hst2.rd (i := 0) rfl).cell (j := 16) rfl | exact (hst2.rd (i := 0) rfl).cell (j := 19) rfl | exact (hst2.rd (i := 0) rfl).cell (j := 21) rfl | assumption) rfl ?_
  first | refine Ops.on rfl ?_ | refine Ops.off rfl rfl ?_
  refine Ops.eql rfl rfl rfl ?_
  first | refine Ops.pickT rfl rfl rfl ?_ | refine Ops.pickF rfl rfl rfl ?_
  refine Ops.move rfl rfl ?_
  first | refine Ops.on rfl ?_ | refine Ops.off rfl rfl ?_
  refine Ops.move rfl rfl ?_
  first | refine Ops.on rfl ?_ | refine Ops.off rfl rfl ?_
  refine Ops.indexAddr rfl rfl Try.underlying24 sz32 rfl (by omega) (by omega) rfl rfl ?_
  first | refine Ops.on rfl ?_ | refine Ops.off rfl rfl ?_
  refine Ops.fieldAddr rfl Try.underlying32 rfl sz30 rfl ?_
  first | refine Ops.on rfl ?_ | refine Ops.off rfl rfl ?_
  refine Ops.fieldAddr rfl Try.underlying30 rfl sz9 rfl ?_
  first | refine Ops.on rfl ?_ | refine Ops.off rfl rfl ?_
  refine Ops.load rfl Try.underlying9 rfl (by first | exact hst2.cell (i := 0) rfl rfl | exact (hst2.rd (i := 0) rfl).cell (j := 1) rfl | exact (hst2.rd (i := 0) rfl).cell (j := 11) rfl | exact (hst2.rd (i := 0) rfl).cell (j := 16) rfl | exact (hst2.rd (i := 0) rfl).cell (j := 19) rfl | exact (hst2.rd (i := 0) rfl).cell (j := 21) rfl | assumption) rfl ?_
  first | refine Ops.on rfl ?_ | refine Ops.off rfl rfl ?_
  refine Ops.eqlS rfl rfl rfl ?_
  first | refine Ops.pickT rfl rfl rfl ?_ | refine Ops.pickF rfl rfl rfl ?_
  refine Ops.move rfl rfl ?_
  first | refine Ops.on rfl ?_ | refine Ops.off rfl rfl ?_
  refine Ops.move rfl rfl ?_
  first | refine Ops.on rfl ?_ | refine Ops.off rfl rfl ?_
  refine Ops.indexAddr rfl rfl Try.underlying24 sz32 rfl (by omega) (by omega) rfl rfl ?_
  first | refine Ops.on rfl ?_ | refine Ops.off rfl rfl ?_
  refine Ops.fieldAddr rfl Try.underlying32 rfl sz30 rfl ?_
  first | refine Ops.on rfl ?_ | refine Ops.off rfl rfl ?_
  refine Ops.fieldAddr rfl Try.underlying30 rfl sz9 rfl ?_
  first | refine Ops.on rfl ?_ | refine Ops.off rfl rfl ?_
  refine Ops.load rfl Try.underlying9 rfl (by first | exact hst2.cell (i := 0) rfl rfl | exact (hst2.rd (i := 0) rfl).cell (j := 1) rfl | exact (hst2.rd (i := 0) rfl).cell (j := 11) rfl | exact (hst2.rd (i := 0) rfl).cell (j := 16) rfl | exact (hst2.rd (i := 0) rfl).cell (j := 19) rfl | exact (hst2.rd (i := 0) rfl).cell (j := 21) rfl | assumption) rfl ?_
  first | refine Ops.on rfl ?_ | refine Ops.off rfl rfl ?_
  refine Ops.eqlS rfl rfl rfl ?_
  first | refine Ops.pickT rfl rfl rfl ?_ | refine Ops.pickF rfl rfl rfl ?_
  refine Ops.assign rfl rfl ?_
  refine Ops.nil ?_
  refine Run.ret _ rfl (fun a ha => res1 rfl rfl ha) ?_
  exact ⟨rfl, hst2.sub (List.nil_sublist _)⟩


abbrev kindsT : List Value := [0, 1, 1, 1, 2, 2, 3, 3, 3, 3, 3, 4, 5, 6, 6, 7].map (Value.int .i64)
theorem oneL_kinds (a b c d : Int) (ha : 0 ≤ a) : ∃ (k y x2 e x4 : Int) (x5 x6 x7 : Int) (x8 x9 x10 : ByteArray) (yb eb : Bool), oneL a b c d = [.int .i64 k, .int .i64 y, .int .i64 x2, .int .i64 e, .int .i64 x4, .int .i64 x5, .int .i64 x6, .int .i64 x7, .string x8, .string x9, .string x10] ∧
    kindsT[(a % 16).toNat]? = some (.int .i64 k) ∧ (y == 0) = yb ∧ (e == 0) = eb ∧ ((k = 0 ∨ k = 1 ∨ k = 2 ∨ k = 6) ∧ eb = true ∨ (k = 3 ∨ k = 4 ∨ k = 5) ∧ yb = true ∧ eb = true ∨ k = 7) := by
  have h : a % 16 = 0 ∨ a % 16 = 1 ∨ a % 16 = 2 ∨ a % 16 = 3 ∨ a % 16 = 4 ∨ a % 16 = 5 ∨ a % 16 = 6 ∨ a % 16 = 7 ∨ a % 16 = 8 ∨ a % 16 = 9 ∨ a % 16 = 10 ∨ a % 16 = 11 ∨ a % 16 = 12 ∨ a % 16 = 13 ∨ a % 16 = 14 ∨ a % 16 = 15 := by omega
  unfold oneL cmdL
  rcases h with h | h | h | h | h | h | h | h | h | h | h | h | h | h | h | h <;> rw [h] <;> exact ⟨_, _, _, _, _, _, _, _, _, _, _, _, _, rfl, rfl, rfl, rfl, by simp⟩

set_option maxRecDepth 100000 in
set_option maxHeartbeats 2000000 in
theorem kinds_calls (b0 b1 b2 b3 : Int) (w : World) (h0 : 0 ≤ b0 ∧ b0 < 256) (h1 : 0 ≤ b1 ∧ b1 < 256) (h2 : 0 ≤ b2 ∧ b2 < 256) (h3 : 0 ≤ b3 ∧ b3 < 256) :
    Calls Try.prog 6 #[.int .u8 b0, .int .u8 b1, .int .u8 b2, .int .u8 b3] w fun e w' => e = .returned (.bool true) ∧ St w (fps []) [] w' := by
  have hst : St w (fps []) [] w := St.nil _ _
  refine calls_of_run Try.func6 rfl rfl ?_
  refine Run.seq ?_
  refine Run.region ?_
  refine Ops.assign rfl rfl ?_
  refine Ops.nil ?_
  refine Run.seq ?_
  refine Run.seq ?_
  refine Run.region ?_
  refine Ops.call rfl rfl Try.func13 (by kernel_rfl) (by kernel_rfl) rfl (awake_calls _ (St.nil _ _)) ?_
  rintro x w2 ⟨rfl, hst2⟩
  refine ⟨_, rfl, ?_⟩ --ST hst2
  refine Ops.not rfl rfl ?_
  refine Ops.nil ?_
  refine Run.condF rfl (rfl) ?_
  refine Run.skip ?_
  refine Run.seq ?_
  refine Run.region ?_
  refine Ops.move rfl rfl ?_
  refine Ops.move rfl rfl ?_
  refine Ops.move rfl rfl ?_
  refine Ops.move rfl rfl ?_
  refine Ops.buildSlice ([b0, b1, b2, b3].map (Value.int .u8)) hst2 rfl Try.underlying22 sz5 zr5 rfl rfl (by kernel_rfl) rfl (fun g1 w1 hst1 hg1 => ?_)
  refine Ops.call rfl rfl Try.func14 (by kernel_rfl) (by kernel_rfl) rfl (acts_calls _ [b0, b1, b2, b3] _ (by intro x hx; simp only [List.mem_cons, List.not_mem_nil, or_false] at hx; rcases hx with rfl | rfl | rfl | rfl <;> assumption) (by simp) (Rd_of_blk hst1 (i := 0) rfl rfl (by simp [Value.oneCell'])) (St.nil _ _)) ?_
  obtain ⟨k, y, x2, e0, x4, x5, x6, x7, x8, x9, x10, yb, eb, hone, hkt, hyb, heb, hcs⟩ := oneL_kinds b0 b1 b2 b3 h0.1
  rintro x w3 ⟨v, rfl, hq⟩
  rw [show ([b0, b1, b2, b3] : List Int).length / 4 = 1 from by simp, show actsL 1 [b0, b1, b2, b3] = oneL b0 b1 b2 b3 from by simp [actsL, oneAt], hone] at hq
  have hst3 := hst1.back (H1 := []) hq
  obtain ⟨A, c, rfl, hc, hpos⟩ := (hst3.rd (i := 0) rfl).shape
  obtain ⟨g, o, rfl⟩ := hpos (by omega)
  refine ⟨_, rfl, ?_⟩ --ST hst3
  refine Ops.assign rfl rfl ?_
  refine Ops.nil ?_
  refine Run.seq ?_
  refine Run.seq ?_
  refine Run.region ?_
  refine Ops.move rfl rfl ?_
  refine Ops.len rfl rfl rfl Try.underlying24 rfl ?_
  refine Ops.neq rfl rfl rfl ?_
  refine Ops.nil ?_
  refine Run.condF rfl (rfl) ?_
  refine Run.skip ?_
  refine Run.seq ?_
  refine Run.region ?_
  refine Ops.buildSlice kindsT hst3 rfl Try.underlying36 sz26 zr26 rfl rfl (by kernel_rfl) rfl (fun g2 w2 hst2 hg2 => ?_)
  refine Ops.move rfl rfl ?_
  first | refine Ops.remI rfl rfl rfl (by omega) (by omega) ?_ | refine Ops.rem rfl rfl rfl (by omega) ?_
  refine Ops.indexAddr (j := (b0 % 16).toNat) rfl rfl Try.underlying36 sz26 rfl (by omega) (by omega) (by omega) rfl ?_
  refine Ops.load rfl Try.underlying26 rfl ((Rd_of_blk (sz := 1) (m := 16) hst2 (i := 2) rfl rfl (by simp [Value.oneCell'])).cell (j := (b0 % 16).toNat) hkt) rfl ?_
  refine Ops.assign rfl rfl ?_
  refine Ops.nil ?_
  refine Run.seq ?_
  have hcs2 : (k = 0 ∧ eb = true ∨ k = 1 ∧ eb = true ∨ k = 2 ∧ eb = true ∨ k = 6 ∧ eb = true) ∨ (k = 3 ∧ yb = true ∧ eb = true ∨ k = 4 ∧ yb = true ∧ eb = true ∨ k = 5 ∧ yb = true ∧ eb = true) ∨ k = 7 := by
    rcases hcs with ⟨h | h | h | h, he⟩ | ⟨h | h | h, he⟩ | h <;> simp [*]
  clear hcs hkt hone
  rcases hcs2 with (⟨rfl, rfl⟩ | ⟨rfl, rfl⟩ | ⟨rfl, rfl⟩ | ⟨rfl, rfl⟩) | (⟨rfl, rfl, rfl⟩ | ⟨rfl, rfl, rfl⟩ | ⟨rfl, rfl, rfl⟩) | rfl
  all_goals first | cases yb | skip
  all_goals first | cases eb | skip
  all_goals refine Run.region ?_
  all_goals refine Ops.move rfl rfl ?_
  all_goals refine Ops.eql rfl rfl rfl ?_
  all_goals refine Ops.move rfl rfl ?_
  all_goals first | refine Ops.off rfl rfl ?_ | (refine Ops.on rfl ?_; refine Ops.move rfl rfl ?_)
  all_goals first | refine Ops.off rfl rfl ?_ | (refine Ops.on rfl ?_; refine Ops.eql rfl rfl rfl ?_)
  all_goals first | refine Ops.pickT rfl rfl rfl ?_ | refine Ops.pickF rfl rfl rfl ?_
  all_goals refine Ops.move rfl rfl ?_
  all_goals first | refine Ops.off rfl rfl ?_ | (refine Ops.on rfl ?_; refine Ops.move rfl rfl ?_)
  all_goals first | refine Ops.off rfl rfl ?_ | (refine Ops.on rfl ?_; refine Ops.eql rfl rfl rfl ?_)
  all_goals first | refine Ops.pickT rfl rfl rfl ?_ | refine Ops.pickF rfl rfl rfl ?_
  all_goals refine Ops.assign rfl rfl ?_
  all_goals refine Ops.nil ?_
  all_goals refine Run.seq ?_
  all_goals refine Run.region ?_
  all_goals refine Ops.move rfl rfl ?_
  all_goals refine Ops.indexAddr rfl rfl Try.underlying24 sz32 rfl (by omega) (by omega) rfl rfl ?_
  all_goals refine Ops.fieldAddr rfl Try.underlying32 rfl sz26 rfl ?_
  all_goals refine Ops.load rfl Try.underlying26 rfl (by first | exact hst2.cell (i := 0) rfl rfl | exact (hst2.rd (i := 0) rfl).cell (j := 0) rfl | exact (hst2.rd (i := 0) rfl).cell (j := 1) rfl | exact (hst2.rd (i := 0) rfl).cell (j := 3) rfl | assumption) rfl ?_
  all_goals refine Ops.move rfl rfl ?_
  all_goals refine Ops.eql rfl rfl rfl ?_
  all_goals refine Ops.move rfl rfl ?_
  all_goals first | refine Ops.off rfl rfl ?_ | (refine Ops.on rfl ?_; refine Ops.move rfl rfl ?_)
  all_goals first | refine Ops.off rfl rfl ?_ | (refine Ops.on rfl ?_; refine Ops.indexAddr rfl rfl Try.underlying24 sz32 rfl (by omega) (by omega) rfl rfl ?_)
  all_goals first | refine Ops.off rfl rfl ?_ | (refine Ops.on rfl ?_; refine Ops.fieldAddr rfl Try.underlying32 rfl sz3 rfl ?_)
  all_goals first | refine Ops.off rfl rfl ?_ | (refine Ops.on rfl ?_; refine Ops.load rfl Try.underlying3 rfl (by first | exact hst2.cell (i := 0) rfl rfl | exact (hst2.rd (i := 0) rfl).cell (j := 0) rfl | exact (hst2.rd (i := 0) rfl).cell (j := 1) rfl | exact (hst2.rd (i := 0) rfl).cell (j := 3) rfl | assumption) rfl ?_)
  all_goals refine Ops.on rfl ?_
  all_goals refine Ops.eql rfl rfl rfl ?_
  all_goals refine Ops.re 49 rfl (congrArg Value.bool hyb) ?_
  all_goals first | refine Ops.off rfl rfl ?_ | (refine Ops.on rfl ?_; refine Ops.move rfl rfl ?_)
  all_goals first | refine Ops.off rfl rfl ?_ | (refine Ops.on rfl ?_; refine Ops.move rfl rfl ?_)
  all_goals first | refine Ops.off rfl rfl ?_ | (refine Ops.on rfl ?_; refine Ops.not rfl rfl ?_)
  all_goals first | refine Ops.off rfl rfl ?_ | (refine Ops.on rfl ?_; first | refine Ops.pickT rfl rfl rfl ?_ | refine Ops.pickF rfl rfl rfl ?_)
  all_goals first | refine Ops.pickT rfl rfl rfl ?_ | refine Ops.pickF rfl rfl rfl ?_
  all_goals refine Ops.move rfl rfl ?_
  all_goals first | refine Ops.off rfl rfl ?_ | (refine Ops.on rfl ?_; refine Ops.move rfl rfl ?_)
  all_goals first | refine Ops.off rfl rfl ?_ | (refine Ops.on rfl ?_; refine Ops.indexAddr rfl rfl Try.underlying24 sz32 rfl (by omega) (by omega) rfl rfl ?_)
  all_goals first | refine Ops.off rfl rfl ?_ | (refine Ops.on rfl ?_; refine Ops.fieldAddr rfl Try.underlying32 rfl sz3 rfl ?_)
  all_goals first | refine Ops.off rfl rfl ?_ | (refine Ops.on rfl ?_; refine Ops.load rfl Try.underlying3 rfl (by first | exact hst2.cell (i := 0) rfl rfl | exact (hst2.rd (i := 0) rfl).cell (j := 0) rfl | exact (hst2.rd (i := 0) rfl).cell (j := 1) rfl | exact (hst2.rd (i := 0) rfl).cell (j := 3) rfl | assumption) rfl ?_)
  all_goals refine Ops.on rfl ?_
  all_goals refine Ops.eql rfl rfl rfl ?_
  all_goals refine Ops.re 60 rfl (congrArg Value.bool heb) ?_
  all_goals first | refine Ops.off rfl rfl ?_ | (refine Ops.on rfl ?_; refine Ops.move rfl rfl ?_)
  all_goals first | refine Ops.off rfl rfl ?_ | (refine Ops.on rfl ?_; refine Ops.move rfl rfl ?_)
  all_goals first | refine Ops.off rfl rfl ?_ | (refine Ops.on rfl ?_; refine Ops.eql rfl rfl rfl ?_)
  all_goals first | refine Ops.off rfl rfl ?_ | (refine Ops.on rfl ?_; first | refine Ops.pickT rfl rfl rfl ?_ | refine Ops.pickF rfl rfl rfl ?_)
  all_goals first | refine Ops.pickT rfl rfl rfl ?_ | refine Ops.pickF rfl rfl rfl ?_
  all_goals refine Ops.assign rfl rfl ?_
  all_goals refine Ops.nil ?_
  all_goals refine Run.ret _ rfl (fun a ha => res1 rfl rfl ha) ?_
  all_goals exact ⟨rfl, hst2.sub (List.nil_sublist _)⟩

end Go.Proofs.Ytiijlkebolfcpaa.Script2
