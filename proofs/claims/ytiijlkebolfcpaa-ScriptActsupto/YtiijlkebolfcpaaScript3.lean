/- Script: walks. -/
import Derived.Test.YtiijlkebolfcpaaScript2
import Derived.Test.YtiijlkebolfcpaaSxI
namespace Go.Proofs.Ytiijlkebolfcpaa.Script3
open Go Go.RowKit Go.Proofs.Ytiijlkebolfcpaa.Sx Go.Proofs.Ytiijlkebolfcpaa.Script Go.Proofs.Ytiijlkebolfcpaa.Script2
set_option linter.unusedVariables false
set_option linter.unusedSimpArgs false
theorem sz3 : (Try.prog.info? 3).map (·.size) = some 1 := by kernel_rfl
theorem sz9 : (Try.prog.info? 9).map (·.size) = some 1 := by kernel_rfl
theorem sz26 : (Try.prog.info? 26).map (·.size) = some 1 := by kernel_rfl
theorem sz27 : (Try.prog.info? 27).map (·.size) = some 1 := by kernel_rfl
theorem sz28 : (Try.prog.info? 28).map (·.size) = some 1 := by kernel_rfl
theorem sz30 : (Try.prog.info? 30).map (·.size) = some 6 := by kernel_rfl
theorem sz32 : (Try.prog.info? 32).map (·.size) = some 11 := by kernel_rfl
theorem eqr30 (d : Nat) (x0 : Int) (x1 : Int) (x2 : Int) (x3 : ByteArray) (x4 : ByteArray) (x5 : ByteArray) : EqR Try.prog (d + 2) 30 (.agg #[.int .i64 x0, .int .i64 x1, .int .i64 x2, .string x3, .string x4, .string x5]) :=
  EqR.agg Try.underlying30 (by kernel_rfl) ⟨⟨_, fun w => rfl, EqR.int Try.underlying28⟩, ⟨_, fun w => rfl, EqR.int Try.underlying3⟩, ⟨_, fun w => rfl, EqR.int Try.underlying3⟩, ⟨_, fun w => rfl, EqR.str Try.underlying9⟩, ⟨_, fun w => rfl, EqR.str Try.underlying9⟩, ⟨_, fun w => rfl, EqR.str Try.underlying9⟩, trivial⟩
theorem zr30 : (Try.prog.info? 30).map (·.zero) = some (some (.agg #[.int .i64 0, .int .i64 0, .int .i64 0, .string ⟨#[]⟩, .string ⟨#[]⟩, .string ⟨#[]⟩])) := by kernel_rfl
theorem zr32 : (Try.prog.info? 32).map (·.zero) = some (some (.agg #[.int .i64 0, .int .i64 0, .int .i64 0, .int .i64 0, .int .i64 0, .int .i64 0, .int .i64 0, .int .i64 0, .string ⟨#[]⟩, .string ⟨#[]⟩, .string ⟨#[]⟩])) := by kernel_rfl
theorem pl30 {fs : Array Field} (h : Try.prog.underlying 30 = some (.struct fs)) (w : World) : (fs.mapM fun f => do pure (f.offset, ← sizeOf f.type) : Sem (Array (Nat × Nat))).run Try.prog w = .ok #[(0, 1), (1, 1), (2, 1), (3, 1), (4, 1), (5, 1)] w := by
  rw [Try.underlying30] at h
  cases h
  kernel_rfl
set_option maxRecDepth 100000 in
set_option maxHeartbeats 2000000 in
theorem may_calls (o a b : Int) (s1 s2 s3 : ByteArray) (w : World) (ho : 1 ≤ o ∧ o ≤ 3) (ha : 0 ≤ a ∧ a < 4) (hb : 0 ≤ b ∧ b ≤ 1048576) (h1 : s1.size = 1) (h2 : s2.size ≤ 1) (h3 : s3.size ≤ 1) (hst : St w (fps []) [] w) :
    Calls Try.prog 16 #[.agg #[.int .i64 o, .int .i64 a, .int .i64 b, .string s1, .string s2, .string s3]] w fun e w' => e = .returned (.bool true) ∧ St w (fps []) [] w' := by
  refine calls_of_run Try.func16 rfl rfl ?_
  refine Run.seq ?_
  refine Run.region ?_
  refine Ops.box _ hst rfl rfl rfl (fun g1 w1 hst1 hg1 => ?_)
  refine Ops.assign rfl rfl ?_
  refine Ops.nil ?_
  refine Run.seq ?_
  refine Run.seq ?_
  refine Run.region ?_
  refine Ops.fieldAddr rfl Try.underlying30 rfl sz28 rfl ?_
  refine Ops.load rfl Try.underlying28 rfl (by first | exact hst1.cell (i := 0) rfl rfl | assumption) rfl ?_
  refine Ops.lss rfl rfl rfl ?_
  refine Ops.re 5 rfl (congrArg Value.bool (show _ = false from by first | rfl | (simp; omega))) ?_
  refine Ops.move rfl rfl ?_
  first | refine Ops.on rfl ?_ | refine Ops.off rfl rfl ?_
  refine Ops.fieldAddr rfl Try.underlying30 rfl sz28 rfl ?_
  first | refine Ops.on rfl ?_ | refine Ops.off rfl rfl ?_
  refine Ops.load rfl Try.underlying28 rfl (by first | exact hst1.cell (i := 0) rfl rfl | assumption) rfl ?_
  first | refine Ops.on rfl ?_ | refine Ops.off rfl rfl ?_
  refine Ops.geq rfl rfl rfl ?_
  refine Ops.re 9 rfl (congrArg Value.bool (show _ = false from by first | rfl | (simp; omega))) ?_
  first | refine Ops.pickT rfl rfl rfl ?_ | refine Ops.pickF rfl rfl rfl ?_
  refine Ops.move rfl rfl ?_
  first | refine Ops.on rfl ?_ | refine Ops.off rfl rfl ?_
  refine Ops.fieldAddr rfl Try.underlying30 rfl sz9 rfl ?_
  first | refine Ops.on rfl ?_ | refine Ops.off rfl rfl ?_
  refine Ops.load rfl Try.underlying9 rfl (by first | exact hst1.cell (i := 0) rfl rfl | assumption) rfl ?_
  first | refine Ops.on rfl ?_ | refine Ops.off rfl rfl ?_
  refine Ops.lenS rfl rfl rfl Try.underlying9 rfl ?_
  first | refine Ops.on rfl ?_ | refine Ops.off rfl rfl ?_
  refine Ops.gtr rfl rfl rfl ?_
  refine Ops.re 15 rfl (congrArg Value.bool (show _ = false from by first | rfl | (simp; omega))) ?_
  first | refine Ops.pickT rfl rfl rfl ?_ | refine Ops.pickF rfl rfl rfl ?_
  refine Ops.move rfl rfl ?_
  first | refine Ops.on rfl ?_ | refine Ops.off rfl rfl ?_
  refine Ops.fieldAddr rfl Try.underlying30 rfl sz9 rfl ?_
  first | refine Ops.on rfl ?_ | refine Ops.off rfl rfl ?_
  refine Ops.load rfl Try.underlying9 rfl (by first | exact hst1.cell (i := 0) rfl rfl | assumption) rfl ?_
  first | refine Ops.on rfl ?_ | refine Ops.off rfl rfl ?_
  refine Ops.lenS rfl rfl rfl Try.underlying9 rfl ?_
  first | refine Ops.on rfl ?_ | refine Ops.off rfl rfl ?_
  refine Ops.gtr rfl rfl rfl ?_
  refine Ops.re 21 rfl (congrArg Value.bool (show _ = false from by first | rfl | (simp; omega))) ?_
  first | refine Ops.pickT rfl rfl rfl ?_ | refine Ops.pickF rfl rfl rfl ?_
  refine Ops.nil ?_
  refine Run.condF rfl (rfl) ?_
  refine Run.skip ?_
  refine Run.seq ?_
  refine Run.seq ?_
  refine Run.region ?_
  refine Ops.fieldAddr rfl Try.underlying30 rfl sz28 rfl ?_
  refine Ops.load rfl Try.underlying28 rfl (by first | exact hst1.cell (i := 0) rfl rfl | assumption) rfl ?_
  refine Ops.eql rfl rfl rfl ?_
  refine Ops.re 25 rfl (congrArg Value.bool (show _ = false from by first | rfl | (simp; omega))) ?_
  refine Ops.nil ?_
  refine Run.condF rfl (rfl) ?_
  refine Run.skip ?_
  refine Run.seq ?_
  refine Run.region ?_
  refine Ops.fieldAddr rfl Try.underlying30 rfl sz3 rfl ?_
  refine Ops.load rfl Try.underlying3 rfl (by first | exact hst1.cell (i := 0) rfl rfl | assumption) rfl ?_
  refine Ops.geq rfl rfl rfl ?_
  refine Ops.re 31 rfl (congrArg Value.bool (show _ = true from by first | rfl | (simp; omega))) ?_
  refine Ops.move rfl rfl ?_
  first | refine Ops.on rfl ?_ | refine Ops.off rfl rfl ?_
  refine Ops.fieldAddr rfl Try.underlying30 rfl sz3 rfl ?_
  first | refine Ops.on rfl ?_ | refine Ops.off rfl rfl ?_
  refine Ops.load rfl Try.underlying3 rfl (by first | exact hst1.cell (i := 0) rfl rfl | assumption) rfl ?_
  first | refine Ops.on rfl ?_ | refine Ops.off rfl rfl ?_
  refine Ops.lss rfl rfl rfl ?_
  refine Ops.re 35 rfl (congrArg Value.bool (show _ = true from by first | rfl | (simp; omega))) ?_
  first | refine Ops.pickT rfl rfl rfl ?_ | refine Ops.pickF rfl rfl rfl ?_
  refine Ops.move rfl rfl ?_
  first | refine Ops.on rfl ?_ | refine Ops.off rfl rfl ?_
  refine Ops.fieldAddr rfl Try.underlying30 rfl sz3 rfl ?_
  first | refine Ops.on rfl ?_ | refine Ops.off rfl rfl ?_
  refine Ops.load rfl Try.underlying3 rfl (by first | exact hst1.cell (i := 0) rfl rfl | assumption) rfl ?_
  first | refine Ops.on rfl ?_ | refine Ops.off rfl rfl ?_
  refine Ops.geq rfl rfl rfl ?_
  refine Ops.re 40 rfl (congrArg Value.bool (show _ = true from by first | rfl | (simp; omega))) ?_
  first | refine Ops.pickT rfl rfl rfl ?_ | refine Ops.pickF rfl rfl rfl ?_
  refine Ops.move rfl rfl ?_
  first | refine Ops.on rfl ?_ | refine Ops.off rfl rfl ?_
  refine Ops.fieldAddr rfl Try.underlying30 rfl sz3 rfl ?_
  first | refine Ops.on rfl ?_ | refine Ops.off rfl rfl ?_
  refine Ops.load rfl Try.underlying3 rfl (by first | exact hst1.cell (i := 0) rfl rfl | assumption) rfl ?_
  first | refine Ops.on rfl ?_ | refine Ops.off rfl rfl ?_
  refine Ops.leq rfl rfl rfl ?_
  refine Ops.re 45 rfl (congrArg Value.bool (show _ = true from by first | rfl | (simp; omega))) ?_
  first | refine Ops.pickT rfl rfl rfl ?_ | refine Ops.pickF rfl rfl rfl ?_
  refine Ops.move rfl rfl ?_
  first | refine Ops.on rfl ?_ | refine Ops.off rfl rfl ?_
  refine Ops.fieldAddr rfl Try.underlying30 rfl sz9 rfl ?_
  first | refine Ops.on rfl ?_ | refine Ops.off rfl rfl ?_
  refine Ops.load rfl Try.underlying9 rfl (by first | exact hst1.cell (i := 0) rfl rfl | assumption) rfl ?_
  first | refine Ops.on rfl ?_ | refine Ops.off rfl rfl ?_
  refine Ops.neqS rfl rfl rfl ?_
  refine Ops.re 50 rfl (congrArg Value.bool (show _ = true from by have hne : s1 ≠ ⟨#[]⟩ := (fun hh => by subst hh; cases h1); exact congrArg not (decide_eq_false hne))) ?_
  first | refine Ops.pickT rfl rfl rfl ?_ | refine Ops.pickF rfl rfl rfl ?_
  refine Ops.move rfl rfl ?_
  first | refine Ops.on rfl ?_ | refine Ops.off rfl rfl ?_
  refine Ops.fieldAddr rfl Try.underlying30 rfl sz9 rfl ?_
  first | refine Ops.on rfl ?_ | refine Ops.off rfl rfl ?_
  refine Ops.load rfl Try.underlying9 rfl (by first | exact hst1.cell (i := 0) rfl rfl | assumption) rfl ?_
  first | refine Ops.on rfl ?_ | refine Ops.off rfl rfl ?_
  refine Ops.lenS rfl rfl rfl Try.underlying9 rfl ?_
  first | refine Ops.on rfl ?_ | refine Ops.off rfl rfl ?_
  refine Ops.leq rfl rfl rfl ?_
  refine Ops.re 56 rfl (congrArg Value.bool (show _ = true from by first | rfl | (simp; omega))) ?_
  first | refine Ops.pickT rfl rfl rfl ?_ | refine Ops.pickF rfl rfl rfl ?_
  refine Ops.assign rfl rfl ?_
  refine Ops.nil ?_
  refine Run.ret _ rfl (fun a ha => res1 rfl rfl ha) ?_
  exact ⟨rfl, hst1.sub (List.nil_sublist _)⟩

set_option maxRecDepth 100000 in
set_option maxHeartbeats 2000000 in
theorem may0_calls (w : World) (hst : St w (fps []) [] w) :
    Calls Try.prog 16 #[.agg zeroCmd.toArray] w fun e w' => e = .returned (.bool true) ∧ St w (fps []) [] w' := by
  refine calls_of_run Try.func16 rfl rfl ?_
  refine Run.seq ?_
  refine Run.region ?_
  refine Ops.box _ hst rfl rfl rfl (fun g1 w1 hst1 hg1 => ?_)
  refine Ops.assign rfl rfl ?_
  refine Ops.nil ?_
  refine Run.seq ?_
  refine Run.seq ?_
  refine Run.region ?_
  refine Ops.fieldAddr rfl Try.underlying30 rfl sz28 rfl ?_
  refine Ops.load rfl Try.underlying28 rfl (by first | exact hst1.cell (i := 0) rfl rfl | assumption) rfl ?_
  refine Ops.lss rfl rfl rfl ?_
  refine Ops.move rfl rfl ?_
  first | refine Ops.on rfl ?_ | refine Ops.off rfl rfl ?_
  refine Ops.fieldAddr rfl Try.underlying30 rfl sz28 rfl ?_
  first | refine Ops.on rfl ?_ | refine Ops.off rfl rfl ?_
  refine Ops.load rfl Try.underlying28 rfl (by first | exact hst1.cell (i := 0) rfl rfl | assumption) rfl ?_
  first | refine Ops.on rfl ?_ | refine Ops.off rfl rfl ?_
  refine Ops.geq rfl rfl rfl ?_
  first | refine Ops.pickT rfl rfl rfl ?_ | refine Ops.pickF rfl rfl rfl ?_
  refine Ops.move rfl rfl ?_
  first | refine Ops.on rfl ?_ | refine Ops.off rfl rfl ?_
  refine Ops.fieldAddr rfl Try.underlying30 rfl sz9 rfl ?_
  first | refine Ops.on rfl ?_ | refine Ops.off rfl rfl ?_
  refine Ops.load rfl Try.underlying9 rfl (by first | exact hst1.cell (i := 0) rfl rfl | assumption) rfl ?_
  first | refine Ops.on rfl ?_ | refine Ops.off rfl rfl ?_
  refine Ops.lenS rfl rfl rfl Try.underlying9 rfl ?_
  first | refine Ops.on rfl ?_ | refine Ops.off rfl rfl ?_
  refine Ops.gtr rfl rfl rfl ?_
  first | refine Ops.pickT rfl rfl rfl ?_ | refine Ops.pickF rfl rfl rfl ?_
  refine Ops.move rfl rfl ?_
  first | refine Ops.on rfl ?_ | refine Ops.off rfl rfl ?_
  refine Ops.fieldAddr rfl Try.underlying30 rfl sz9 rfl ?_
  first | refine Ops.on rfl ?_ | refine Ops.off rfl rfl ?_
  refine Ops.load rfl Try.underlying9 rfl (by first | exact hst1.cell (i := 0) rfl rfl | assumption) rfl ?_
  first | refine Ops.on rfl ?_ | refine Ops.off rfl rfl ?_
  refine Ops.lenS rfl rfl rfl Try.underlying9 rfl ?_
  first | refine Ops.on rfl ?_ | refine Ops.off rfl rfl ?_
  refine Ops.gtr rfl rfl rfl ?_
  first | refine Ops.pickT rfl rfl rfl ?_ | refine Ops.pickF rfl rfl rfl ?_
  refine Ops.nil ?_
  refine Run.condF rfl (rfl) ?_
  refine Run.skip ?_
  refine Run.seq ?_
  refine Run.seq ?_
  refine Run.region ?_
  refine Ops.fieldAddr rfl Try.underlying30 rfl sz28 rfl ?_
  refine Ops.load rfl Try.underlying28 rfl (by first | exact hst1.cell (i := 0) rfl rfl | assumption) rfl ?_
  refine Ops.eql rfl rfl rfl ?_
  refine Ops.nil ?_
  refine Run.condT rfl (rfl) ?_
  refine Run.seq ?_
  refine Run.region ?_
  first | refine Ops.loadAgg _ rfl Try.underlying30 rfl sz30 rfl (hst1.cells (i := 0) rfl _ 6) rfl ?_
  refine Ops.build zeroCmd rfl Try.underlying30 zr30 (pl30 Try.underlying30) (by kernel_rfl) rfl ?_
  refine Ops.eqlR rfl rfl (eqr30 9998 _ _ _ _ _ _) (by kernel_rfl) rfl ?_
  refine Ops.assign rfl rfl ?_
  refine Ops.nil ?_
  refine Run.ret _ rfl (fun a ha => res1 rfl rfl ha) ?_
  exact ⟨rfl, hst1.sub (List.nil_sublist _)⟩


theorem oneAt_len (l : List Int) : (oneAt l).length = 11 := by
  obtain ⟨x0, x1, x2, x3, x4, x5, x6, x7, x8, x9, x10, h, _⟩ := oneL_form (l.getD 0 0) (l.getD 1 0) (l.getD 2 0) (l.getD 3 0)
  unfold oneAt
  rw [h]
  rfl
theorem actsL_len (l : List Int) : ∀ n, (actsL n l).length = n * 11
  | 0 => rfl
  | n + 1 => by
    rw [actsL_succ, List.length_append, actsL_len l n, oneAt_len]
    omega
theorem actsL_at (l : List Int) : ∀ {n i : Nat}, i < n → ((actsL n l).drop (i * 11)).take 11 = oneAt (l.drop (4 * i))
  | n + 1, i, h => by
    rw [actsL_succ]
    rcases Nat.lt_or_ge i n with h1 | h1
    · rw [List.drop_append_of_le_length (by rw [actsL_len]; omega), List.take_append_of_le_length (by rw [List.length_drop, actsL_len]; omega)]
      exact actsL_at l h1
    · have : i = n := by omega
      subst this
      rw [List.drop_append, List.drop_of_length_le (by rw [actsL_len]; omega), actsL_len, Nat.sub_self]
      simp only [List.drop_zero, List.nil_append]
      exact List.take_of_length_le (by rw [oneAt_len]; omega)
theorem oneL_may (a b c d : Int) (ha : 0 ≤ a) (hb : 0 ≤ b) (hc : 0 ≤ c ∧ c < 256) (hd : 0 ≤ d) : ∃ (k y x2 e x4 x5 x6 x7 : Int) (x8 x9 x10 : ByteArray) (zb : Bool), oneL a b c d = [.int .i64 k, .int .i64 y, .int .i64 x2, .int .i64 e, .int .i64 x4, .int .i64 x5, .int .i64 x6, .int .i64 x7, .string x8, .string x9, .string x10] ∧
    (x5 == 0) = zb ∧ (k != 2) = zb ∧ ((x5 = 0 ∧ x6 = 0 ∧ x7 = 0 ∧ x8 = ⟨#[]⟩ ∧ x9 = ⟨#[]⟩ ∧ x10 = ⟨#[]⟩) ∨ ((1 ≤ x5 ∧ x5 ≤ 3) ∧ (0 ≤ x6 ∧ x6 < 4) ∧ (0 ≤ x7 ∧ x7 ≤ 1048576) ∧ x8.size = 1 ∧ x9.size ≤ 1 ∧ x10.size ≤ 1)) ∧ (0 ≤ y ∧ y ≤ 2) ∧ 0 ≤ x4 ∧ x4 < 7 := by
  have h : a % 16 = 0 ∨ a % 16 = 1 ∨ a % 16 = 2 ∨ a % 16 = 3 ∨ a % 16 = 6 ∨ a % 16 = 7 ∨ a % 16 = 8 ∨ a % 16 = 9 ∨ a % 16 = 10 ∨ a % 16 = 11 ∨ a % 16 = 12 ∨ a % 16 = 13 ∨ a % 16 = 14 ∨ a % 16 = 15 ∨ (a % 16 = 4 ∨ a % 16 = 5) := by omega
  unfold oneL
  rcases h with h | h | h | h | h | h | h | h | h | h | h | h | h | h | h
  case inr.inr.inr.inr.inr.inr.inr.inr.inr.inr.inr.inr.inr.inr =>
    have e1 : (if a % 16 = 0 then ([.int .i64 0, .int .i64 (b % 3), .int .i64 0, .int .i64 0, .int .i64 0] ++ zeroCmd : List Value) else if a % 16 < 4 then [.int .i64 1, .int .i64 (b % 3), .int .i64 0, .int .i64 0, .int .i64 0] ++ zeroCmd else if a % 16 < 6 then [.int .i64 2, .int .i64 (b % 3), .int .i64 0, .int .i64 0, .int .i64 0] ++ cmdL c d
      else if a % 16 < 11 then [.int .i64 3, .int .i64 0, .int .i64 b, .int .i64 0, .int .i64 0] ++ zeroCmd else if a % 16 = 11 then [.int .i64 4, .int .i64 0, .int .i64 b, .int .i64 0, .int .i64 0] ++ zeroCmd else if a % 16 = 12 then [.int .i64 5, .int .i64 0, .int .i64 b, .int .i64 0, .int .i64 0] ++ zeroCmd
      else if a % 16 = 15 then [.int .i64 7, .int .i64 (b % 3), .int .i64 (c % 24), .int .i64 d, .int .i64 0] ++ zeroCmd else [.int .i64 6, .int .i64 (b % 3), .int .i64 d, .int .i64 0, .int .i64 (c % 7)] ++ zeroCmd) = [.int .i64 2, .int .i64 (b % 3), .int .i64 0, .int .i64 0, .int .i64 0] ++ cmdL c d := by
      rw [if_neg (by omega), if_neg (by omega), if_pos (by omega)]
    rw [e1]
    have ho : 1 ≤ opN c ∧ opN c ≤ 3 := by unfold opN; omega
    refine ⟨_, _, _, _, _, _, _, _, _, _, _, false, rfl, ?_, rfl, .inr ⟨ho, by omega, by omega, strOfNums_size _, ?_, ?_⟩, by omega, by omega⟩
    · simp; omega
    · split
      · exact Nat.zero_le 1
      · exact Nat.le_of_eq (strOfNums_size _)
    · split
      · exact Nat.le_of_eq (strOfNums_size _)
      · exact Nat.zero_le 1
  all_goals
    rw [h]
    exact ⟨_, _, _, _, _, _, _, _, _, _, _, true, rfl, rfl, rfl, .inl ⟨rfl, rfl, rfl, rfl, rfl, rfl⟩, by omega, by omega⟩
theorem may_any (o a b : Int) (s1 s2 s3 : ByteArray) (w : World) (h : (o = 0 ∧ a = 0 ∧ b = 0 ∧ s1 = ⟨#[]⟩ ∧ s2 = ⟨#[]⟩ ∧ s3 = ⟨#[]⟩) ∨ ((1 ≤ o ∧ o ≤ 3) ∧ (0 ≤ a ∧ a < 4) ∧ (0 ≤ b ∧ b ≤ 1048576) ∧ s1.size = 1 ∧ s2.size ≤ 1 ∧ s3.size ≤ 1)) (hst : St w (fps []) [] w) :
    Calls Try.prog 16 #[.agg #[.int .i64 o, .int .i64 a, .int .i64 b, .string s1, .string s2, .string s3]] w fun e w' => e = .returned (.bool true) ∧ St w (fps []) [] w' := by
  rcases h with ⟨rfl, rfl, rfl, rfl, rfl, rfl⟩ | ⟨h1, h2, h3, h4, h5, h6⟩
  · exact may0_calls w hst
  · exact may_calls o a b s1 s2 s3 w h1 h2 h3 h4 h5 h6 hst

set_option maxRecDepth 100000 in
set_option maxHeartbeats 2000000 in
theorem mayLaw_calls (s : Value) (bs : List Int) (w : World) (hb : Bytes bs) (hm : bs.length ≤ 1048576) (hr : Rd w 1 s bs.length (bs.map (Value.int .u8))) :
    Calls Try.prog 7 #[s] w fun e w' => e = .returned (.bool true) ∧ St w (fps []) [] w' := by
  have hst : St w (fps []) [] w := St.nil _ _
  refine calls_of_run Try.func7 rfl rfl ?_
  refine Run.seq ?_
  refine Run.region ?_
  refine Ops.assign rfl rfl ?_
  refine Ops.nil ?_
  refine Run.seq ?_
  refine Run.seq ?_
  refine Run.region ?_
  refine Ops.call rfl rfl Try.func13 (by kernel_rfl) (by kernel_rfl) rfl (awake_calls _ (St.nil _ _)) ?_
  rintro x w2 ⟨rfl, hq⟩
  have hst2 := hst.after0 hq
  refine ⟨_, rfl, ?_⟩ --ST hst2
  refine Ops.not rfl rfl ?_
  refine Ops.nil ?_
  refine Run.condF rfl (rfl) ?_
  refine Run.skip ?_
  refine Run.seq ?_
  refine Run.seq ?_
  refine Run.region ?_
  refine Ops.move rfl rfl ?_
  refine Ops.call rfl rfl Try.func14 (by kernel_rfl) (by kernel_rfl) rfl (acts_calls _ bs _ hb (by omega) (hr.later hst2 (fun k _ => fps_nil k)) (St.nil _ _)) ?_
  rintro x w3 ⟨v, rfl, hq⟩
  have hst3 := hst2.back (H1 := []) hq
  obtain ⟨A, c, rfl, hc, hpos⟩ := (hst3.rd (i := 0) rfl).shape
  refine ⟨_, rfl, ?_⟩ --ST hst3
  refine Ops.len rfl rfl rfl Try.underlying24 rfl ?_
  refine Ops.move rfl rfl ?_
  refine Ops.nil ?_
  refine Run.block ?_
  refine Run.sub (e' := [(8, .slice A (bs.length / 4) c), (9, .int .i64 ((bs.length / 4 : Nat) : Int)), (10, .int .i64 0)]) (subB_spec ⟨rfl, rfl, rfl, trivial⟩) ?_
  refine Run.loop (fun fuel e' w' => ∃ i : Nat, e' = [(8, .slice A (bs.length / 4) c), (9, .int .i64 ((bs.length / 4 : Nat) : Int)), (10, .int .i64 (i : Int))] ∧ i ≤ bs.length / 4 ∧ fuel = bs.length / 4 - i ∧ St w (fps []) [orow 32 11 (.slice A (bs.length / 4) c) (bs.length / 4) (actsL (bs.length / 4) bs)] w') (bs.length / 4) ⟨0, rfl, by omega, by omega, hst3⟩ ?_
  rintro fuel e' w4 ⟨i, rfl, hi, rfl, hst4⟩ --ST hst4
  refine Run.seq ?_
  refine Run.region ?_
  refine Ops.lss rfl rfl rfl ?_
  refine Ops.nil ?_
  refine Run.seq ?_
  refine Run.cond rfl (fun hc11 => ?_) (fun hc11 => ?_)
  · skip
    have hlt : i < bs.length / 4 := by have := of_decide_eq_true hc11; omega
    obtain ⟨g, o, rfl⟩ := hpos (by omega)
    obtain ⟨b0, b1, b2, b3, r, hbr⟩ := four_of (l := bs.drop (4 * i)) (by simp; omega)
    have hbb : ∀ x ∈ b0 :: b1 :: b2 :: b3 :: r, 0 ≤ x ∧ x < 256 := fun x hx => hb x (List.mem_of_mem_drop (hbr ▸ hx))
    obtain ⟨k, y, x2, e0, x4, x5, x6, x7, x8, x9, x10, zb, hone, hz1, hz2, hmay, hy, hx4⟩ := oneL_may b0 b1 b2 b3 (hbb _ (by simp)).1 (hbb _ (by simp)).1 (hbb _ (by simp)) (hbb _ (by simp)).1
    have hat : ((actsL (bs.length / 4) bs).drop (i * 11)).take 11 = [.int .i64 k, .int .i64 y, .int .i64 x2, .int .i64 e0, .int .i64 x4, .int .i64 x5, .int .i64 x6, .int .i64 x7, .string x8, .string x9, .string x10] := by rw [actsL_at bs hlt, hbr]; exact hone
    have hel := (hst4.rd (i := 0) rfl).elem hat
    refine Run.skip ?_
    refine Run.seq ?_
    refine Run.block ?_
    refine Run.seq ?_
    refine Run.region ?_
    refine Ops.indexAddr (j := i * 11) rfl rfl Try.underlying24 sz32 rfl (by omega) (by omega) (by simp) rfl ?_
    refine Ops.loadAgg [.int .i64 k, .int .i64 y, .int .i64 x2, .int .i64 e0, .int .i64 x4, .int .i64 x5, .int .i64 x6, .int .i64 x7, .string x8, .string x9, .string x10] rfl Try.underlying32 rfl sz32 rfl hel rfl ?_
    refine Ops.alloc _ hst4 zr32 rfl rfl (fun g1 w1 hst1 hg1 => ?_)
    first | refine Ops.store 0 [.int .i64 k, .int .i64 y, .int .i64 x2, .int .i64 e0, .int .i64 x4, .int .i64 x5, .int .i64 x6, .int .i64 x7, .string x8, .string x9, .string x10] hst1 rfl rfl rfl rfl sz32 rfl (by simp [Value.oneCell']) (by simp) (fun w2 hst2 => ?_) | refine Ops.store 1 [.int .i64 k, .int .i64 y, .int .i64 x2, .int .i64 e0, .int .i64 x4, .int .i64 x5, .int .i64 x6, .int .i64 x7, .string x8, .string x9, .string x10] hst1 rfl rfl rfl rfl sz32 rfl (by simp [Value.oneCell']) (by simp) (fun w2 hst2 => ?_)
    refine Ops.nil ?_
    refine Run.seq ?_
    refine Run.region ?_
    refine Ops.fieldAddr rfl Try.underlying32 rfl sz30 rfl ?_
    first | refine Ops.loadAgg _ rfl Try.underlying30 rfl sz30 rfl (hst2.cells (i := 0) rfl _ 6) rfl ?_ | refine Ops.loadAgg _ rfl Try.underlying30 rfl sz30 rfl (hst2.cells (i := 1) rfl _ 6) rfl ?_
    refine Ops.call rfl rfl Try.func16 (by kernel_rfl) (by kernel_rfl) rfl (may_any x5 x6 x7 x8 x9 x10 _ hmay (St.nil _ _)) ?_
    rintro x w5 ⟨rfl, hq⟩
    have hst5 := hst2.after0 hq
    refine ⟨_, rfl, ?_⟩ --ST hst5
    refine Ops.not rfl rfl ?_
    refine Ops.move rfl rfl ?_
    first | refine Ops.on rfl ?_ | refine Ops.off rfl rfl ?_
    refine Ops.fieldAddr rfl Try.underlying32 rfl sz30 rfl ?_
    first | refine Ops.on rfl ?_ | refine Ops.off rfl rfl ?_
    refine Ops.fieldAddr rfl Try.underlying30 rfl sz28 rfl ?_
    first | refine Ops.on rfl ?_ | refine Ops.off rfl rfl ?_
    refine Ops.load rfl Try.underlying28 rfl (by first | exact hst5.cell (i := 0) rfl rfl | exact hst5.cell (i := 1) rfl rfl | assumption) rfl ?_
    first | refine Ops.on rfl ?_ | refine Ops.off rfl rfl ?_
    refine Ops.eql rfl rfl rfl ?_
    refine Ops.re 22 rfl (congrArg Value.bool (show _ = zb from hz1)) ?_
    first | refine Ops.on rfl ?_ | refine Ops.off rfl rfl ?_
    refine Ops.fieldAddr rfl Try.underlying32 rfl sz26 rfl ?_
    first | refine Ops.on rfl ?_ | refine Ops.off rfl rfl ?_
    refine Ops.load rfl Try.underlying26 rfl (by first | exact hst5.cell (i := 0) rfl rfl | exact hst5.cell (i := 1) rfl rfl | assumption) rfl ?_
    first | refine Ops.on rfl ?_ | refine Ops.off rfl rfl ?_
    refine Ops.neq rfl rfl rfl ?_
    refine Ops.re 25 rfl (congrArg Value.bool (show _ = zb from hz2)) ?_
    first | refine Ops.on rfl ?_ | refine Ops.off rfl rfl ?_
    refine Ops.neqB rfl rfl rfl Try.underlying4 ?_
    refine Ops.re 26 rfl (congrArg Value.bool (show _ = false from by cases zb <;> rfl)) ?_
    first | refine Ops.pickT rfl rfl rfl ?_ | refine Ops.pickF rfl rfl rfl ?_
    refine Ops.move rfl rfl ?_
    first | refine Ops.on rfl ?_ | refine Ops.off rfl rfl ?_
    refine Ops.fieldAddr rfl Try.underlying32 rfl sz3 rfl ?_
    first | refine Ops.on rfl ?_ | refine Ops.off rfl rfl ?_
    refine Ops.load rfl Try.underlying3 rfl (by first | exact hst5.cell (i := 0) rfl rfl | exact hst5.cell (i := 1) rfl rfl | assumption) rfl ?_
    first | refine Ops.on rfl ?_ | refine Ops.off rfl rfl ?_
    refine Ops.lss rfl rfl rfl ?_
    refine Ops.re 31 rfl (congrArg Value.bool (show _ = false from by first | rfl | (simp; omega))) ?_
    first | refine Ops.pickT rfl rfl rfl ?_ | refine Ops.pickF rfl rfl rfl ?_
    refine Ops.move rfl rfl ?_
    first | refine Ops.on rfl ?_ | refine Ops.off rfl rfl ?_
    refine Ops.fieldAddr rfl Try.underlying32 rfl sz3 rfl ?_
    first | refine Ops.on rfl ?_ | refine Ops.off rfl rfl ?_
    refine Ops.load rfl Try.underlying3 rfl (by first | exact hst5.cell (i := 0) rfl rfl | exact hst5.cell (i := 1) rfl rfl | assumption) rfl ?_
    first | refine Ops.on rfl ?_ | refine Ops.off rfl rfl ?_
    refine Ops.gtr rfl rfl rfl ?_
    refine Ops.re 36 rfl (congrArg Value.bool (show _ = false from by first | rfl | (simp; omega))) ?_
    first | refine Ops.pickT rfl rfl rfl ?_ | refine Ops.pickF rfl rfl rfl ?_
    refine Ops.move rfl rfl ?_
    first | refine Ops.on rfl ?_ | refine Ops.off rfl rfl ?_
    refine Ops.fieldAddr rfl Try.underlying32 rfl sz27 rfl ?_
    first | refine Ops.on rfl ?_ | refine Ops.off rfl rfl ?_
    refine Ops.load rfl Try.underlying27 rfl (by first | exact hst5.cell (i := 0) rfl rfl | exact hst5.cell (i := 1) rfl rfl | assumption) rfl ?_
    first | refine Ops.on rfl ?_ | refine Ops.off rfl rfl ?_
    refine Ops.lss rfl rfl rfl ?_
    refine Ops.re 41 rfl (congrArg Value.bool (show _ = false from by first | rfl | (simp; omega))) ?_
    first | refine Ops.pickT rfl rfl rfl ?_ | refine Ops.pickF rfl rfl rfl ?_
    refine Ops.move rfl rfl ?_
    first | refine Ops.on rfl ?_ | refine Ops.off rfl rfl ?_
    refine Ops.fieldAddr rfl Try.underlying32 rfl sz27 rfl ?_
    first | refine Ops.on rfl ?_ | refine Ops.off rfl rfl ?_
    refine Ops.load rfl Try.underlying27 rfl (by first | exact hst5.cell (i := 0) rfl rfl | exact hst5.cell (i := 1) rfl rfl | assumption) rfl ?_
    first | refine Ops.on rfl ?_ | refine Ops.off rfl rfl ?_
    refine Ops.geq rfl rfl rfl ?_
    refine Ops.re 46 rfl (congrArg Value.bool (show _ = false from by first | rfl | (simp; omega))) ?_
    first | refine Ops.pickT rfl rfl rfl ?_ | refine Ops.pickF rfl rfl rfl ?_
    refine Ops.nil ?_
    refine Run.condF rfl (rfl) ?_
    refine Run.skip ?_
    refine Run.endBlk ?_
    refine Run.region ?_
    first | refine Ops.addI rfl rfl rfl (by omega) (by omega) ?_ | refine Ops.add rfl rfl rfl ?_
    refine Ops.move rfl rfl ?_
    refine Ops.nil ?_
    refine Run.sub (e' := [(8, .slice (some ⟨g, o, none⟩) (bs.length / 4) c), (9, .int .i64 ((bs.length / 4 : Nat) : Int)), (10, .int .i64 ((i + 1 : Nat) : Int))]) (subB_spec ⟨rfl, rfl, rfl, trivial⟩) (Run.stop ⟨bs.length / 4 - (i + 1), by omega, i + 1, rfl, by omega, rfl, hst5.sub (List.Sublist.cons_cons _ (List.nil_sublist _))⟩)
  · skip
    refine Run.exit _ rfl ?_
    refine Run.seq ?_
    refine Run.region ?_
    refine Ops.assign rfl rfl ?_
    refine Ops.nil ?_
    refine Run.ret _ rfl (fun a ha => res1 rfl rfl ha) ?_
    exact ⟨rfl, hst4.sub (List.nil_sublist _)⟩

end Go.Proofs.Ytiijlkebolfcpaa.Script3
