/- Net: walks. -/
import Derived.Test.YtiijlkebolfcpaaNet7
namespace Go.Proofs.Ytiijlkebolfcpaa.Net8
open Go Go.RowKit Go.Proofs.Ytiijlkebolfcpaa.Sx Go.Proofs.Ytiijlkebolfcpaa.Net Go.Proofs.Ytiijlkebolfcpaa.Net2 Go.Proofs.Ytiijlkebolfcpaa.Net3 Go.Proofs.Ytiijlkebolfcpaa.Net4 Go.Proofs.Ytiijlkebolfcpaa.Net5 Go.Proofs.Ytiijlkebolfcpaa.Net6 Go.Proofs.Ytiijlkebolfcpaa.Net7
set_option linter.unusedVariables false
set_option linter.unusedSimpArgs false
theorem sz3 : (Try.prog.info? 3).map (·.size) = some 1 := by kernel_rfl
theorem sz4 : (Try.prog.info? 4).map (·.size) = some 1 := by kernel_rfl
theorem sz40 : (Try.prog.info? 40).map (·.size) = some 1 := by kernel_rfl
theorem zr3 : (Try.prog.info? 3).map (·.zero) = some (some (.int .i64 0)) := by kernel_rfl
theorem zr4 : (Try.prog.info? 4).map (·.zero) = some (some (.bool false)) := by kernel_rfl
theorem zr40 : (Try.prog.info? 40).map (·.zero) = some (some (.pointer none)) := by kernel_rfl
theorem zr43 : (Try.prog.info? 43).map (·.zero) = some (some (.agg #[.slice none 0 0, .int .i64 0])) := by kernel_rfl
theorem pl43 {fs : Array Field} (h : Try.prog.underlying 43 = some (.struct fs)) (w : World) : (fs.mapM fun f => do pure (f.offset, ← sizeOf f.type) : Sem (Array (Nat × Nat))).run Try.prog w = .ok #[(0, 1), (1, 1)] w := by
  rw [Try.underlying43] at h
  cases h
  kernel_rfl

/-- Of the numbers below n, the last 64. -/
def lst (n : Nat) : List Int := (idx n).drop (n - 64)
theorem lst_len (n : Nat) : (lst n).length = min n 64 := by
  rw [lst, List.length_drop, idx_len]
  omega
theorem lst_at (n i : Nat) (h : i < (lst n).length) : (lst n).getD i 0 = ((n - 64 : Nat) : Int) + i := by
  rw [lst_len] at h
  rw [lst, List.getD_eq_getElem?_getD, List.getElem?_drop, idx_at _ _ (by omega)]
  simp
theorem lst_step (n : Nat) : snd1 (lst n, ((n - 64 : Nat) : Int)) (n : Int) = (lst (n + 1), ((n + 1 - 64 : Nat) : Int)) := by
  unfold snd1
  have hl := lst_len n
  simp only []
  split
  · rename_i h
    have h64 : 64 ≤ n := by omega
    refine Prod.ext ?_ ?_
    · simp only []
      unfold lst
      rw [idx_succ, show n + 1 - 64 = n - 64 + 1 from by omega, List.drop_append_of_le_length (by rw [idx_len]; omega), List.tail_drop]
    · simp only []
      omega
  · rename_i h
    have h64 : n < 64 := by omega
    refine Prod.ext ?_ ?_
    · simp only []
      unfold lst
      rw [idx_succ, show n + 1 - 64 = 0 from by omega, show n - 64 = 0 from by omega]
      rfl
    · simp only []
      omega

set_option maxRecDepth 100000 in
set_option maxHeartbeats 2000000 in
theorem mostLaw (a k : Int) (w : World) (ha : 0 ≤ a ∧ a < 65536) (hk : 0 ≤ k ∧ k < 256) :
    Calls Try.prog 10 #[.int .u16 a, .int .u8 k] w fun e w' => e = .returned (.bool true) ∧ St w (fps []) [] w' := by
  have hst : St w (fps []) [] w := St.nil _ _
  obtain ⟨nn, hnn, hnl⟩ := emod_nat a 300 (by omega)
  refine calls_of_runM Try.func10 rfl rfl ?_
  refine Run.seq ?_
  refine Run.region ?_
  refine Ops.box _ hst rfl rfl rfl (fun gB wbgB hstbgB hgbgB => ?_) --ST hstbgB
  refine Ops.alloc _ hstbgB zr4 rfl rfl (fun gR wR hstR hgR => ?_) --ST hstR
  refine Ops.nil ?_
  refine Run.seq ?_
  refine Run.seq ?_
  refine Run.region ?_
  refine Ops.call rfl rfl Try.func17 (by kernel_rfl) (by kernel_rfl) rfl (awake_calls _) ?_
  rintro x w2 ⟨rfl, hq⟩
  have hst2 := hstR.after0 hq
  refine ⟨_, rfl, ?_⟩ --ST hst2
  refine Ops.not rfl rfl ?_
  refine Ops.nil ?_
  refine Run.condF rfl (rfl) ?_
  refine Run.skip ?_
  refine Run.seq ?_
  refine Run.region ?_
  refine Ops.build [.slice none 0 0, .int .i64 0] rfl Try.underlying43 zr43 (pl43 Try.underlying43) (by kernel_rfl) rfl ?_
  refine Ops.box _ hst2 rfl rfl rfl (fun g1 wbg1 hstbg1 hgbg1 => ?_) --ST hstbg1
  refine Ops.alloc _ hstbg1 zr40 rfl rfl (fun gP wP hstP hgP => ?_) --ST hstP
  first | refine Ops.store 0 [_] hstP rfl rfl rfl rfl sz40 rfl (by simp [Value.oneCell']) (by simp) (fun w2 hst2 => ?_) | refine Ops.store 1 [_] hstP rfl rfl rfl rfl sz40 rfl (by simp [Value.oneCell']) (by simp) (fun w2 hst2 => ?_) | refine Ops.store 2 [_] hstP rfl rfl rfl rfl sz40 rfl (by simp [Value.oneCell']) (by simp) (fun w2 hst2 => ?_) | refine Ops.store 3 [_] hstP rfl rfl rfl rfl sz40 rfl (by simp [Value.oneCell']) (by simp) (fun w2 hst2 => ?_) | refine Ops.store 4 [_] hstP rfl rfl rfl rfl sz40 rfl (by simp [Value.oneCell']) (by simp) (fun w2 hst2 => ?_) | refine Ops.store 5 [_] hstP rfl rfl rfl rfl sz40 rfl (by simp [Value.oneCell']) (by simp) (fun w2 hst2 => ?_) | refine Ops.store 6 [_] hstP rfl rfl rfl rfl sz40 rfl (by simp [Value.oneCell']) (by simp) (fun w2 hst2 => ?_) | refine Ops.store 7 [_] hstP rfl rfl rfl rfl sz40 rfl (by simp [Value.oneCell']) (by simp) (fun w2 hst2 => ?_)
  refine Ops.nil ?_
  refine Run.seq ?_
  refine Run.region ?_
  refine Ops.move rfl rfl ?_
  first | refine Ops.remI rfl rfl rfl (by omega) (by omega) ?_ | refine Ops.rem rfl rfl rfl (by omega) ?_
  first | refine Ops.convQ rfl Try.underlying65 Try.underlying3 (wrap_i64_in (by omega) (by omega)) rfl ?_ | refine Ops.conv rfl Try.underlying65 Try.underlying3 rfl ?_
  refine Ops.re 16 rfl (congrArg (Value.int .i64) hnn) ?_
  refine Ops.alloc _ hst2 zr3 rfl rfl (fun gN wN hstNN hgN => ?_) --ST hstNN
  first | refine Ops.store 0 [_] hstNN rfl rfl rfl rfl sz3 rfl (by simp [Value.oneCell']) (by simp) (fun w3 hst3 => ?_) | refine Ops.store 1 [_] hstNN rfl rfl rfl rfl sz3 rfl (by simp [Value.oneCell']) (by simp) (fun w3 hst3 => ?_) | refine Ops.store 2 [_] hstNN rfl rfl rfl rfl sz3 rfl (by simp [Value.oneCell']) (by simp) (fun w3 hst3 => ?_) | refine Ops.store 3 [_] hstNN rfl rfl rfl rfl sz3 rfl (by simp [Value.oneCell']) (by simp) (fun w3 hst3 => ?_) | refine Ops.store 4 [_] hstNN rfl rfl rfl rfl sz3 rfl (by simp [Value.oneCell']) (by simp) (fun w3 hst3 => ?_) | refine Ops.store 5 [_] hstNN rfl rfl rfl rfl sz3 rfl (by simp [Value.oneCell']) (by simp) (fun w3 hst3 => ?_) | refine Ops.store 6 [_] hstNN rfl rfl rfl rfl sz3 rfl (by simp [Value.oneCell']) (by simp) (fun w3 hst3 => ?_) | refine Ops.store 7 [_] hstNN rfl rfl rfl rfl sz3 rfl (by simp [Value.oneCell']) (by simp) (fun w3 hst3 => ?_)
  refine Ops.nil ?_
  refine Run.seq ?_
  refine Run.seq ?_
  have hstO := hst3.push (Fr.refl _ _) (own_nil 3 1 _) (fun k hk => by cases hk)
  have hstM : St w (fps []) (iNet g1 (.slice none 0 0) [] 0 ++ [blk gB [.int .u8 k] 5, blk gR [.bool false] 4, blk gP [.pointer (some ⟨g1, 0, none⟩)] 40, blk gN [.int .i64 (nn : Int)] 3]) _ := hstO.take [2, 5] [0, 1, 3, 4] (show ([2, 5] ++ [0, 1, 3, 4]).Perm (List.range 6) from by decide) --ST hstM
  refine Run.region ?_
  refine Ops.assign rfl rfl ?_
  refine Ops.nil ?_
  refine Run.block ?_
  refine Run.sub (e' := [(3, .pointer (some ⟨gB, 0, none⟩)), (4, .pointer (some ⟨gR, 0, none⟩)), (5, .pointer (some ⟨gP, 0, none⟩)), (6, .pointer (some ⟨gN, 0, none⟩)), (7, .int .i64 0)]) (subB_spec ⟨rfl, rfl, rfl, rfl, rfl, trivial⟩) ?_
  refine Run.loop (fun fuel e' w' => ∃ (i : Nat) (u : Value), e' = [(3, .pointer (some ⟨gB, 0, none⟩)), (4, .pointer (some ⟨gR, 0, none⟩)), (5, .pointer (some ⟨gP, 0, none⟩)), (6, .pointer (some ⟨gN, 0, none⟩)), (7, .int .i64 (i : Int))] ∧ i ≤ nn ∧ fuel = nn - i ∧ St w (fps []) (iNet g1 u (lst (i)) ((i - 64 : Nat) : Int) ++ [blk gB [.int .u8 k] 5, blk gR [.bool false] 4, blk gP [.pointer (some ⟨g1, 0, none⟩)] 40, blk gN [.int .i64 (nn : Int)] 3]) w') nn ⟨0, _, rfl, by omega, by omega, hstM⟩ ?_
  rintro fuel e' w4 ⟨i, u, rfl, hi, rfl, hst4⟩ --ST hst4
  refine Run.seq ?_
  refine Run.seq ?_
  refine Run.region ?_
  refine Ops.move rfl rfl ?_
  refine Ops.load rfl Try.underlying3 rfl (by first | exact hst4.cell (i := 0) rfl rfl | exact hst4.cell (i := 1) rfl rfl | exact hst4.cell (i := 2) rfl rfl | exact hst4.cell (i := 3) rfl rfl | exact hst4.cell (i := 4) rfl rfl | exact hst4.cell (i := 5) rfl rfl | exact hst4.cell (i := 6) rfl rfl | exact hst4.cell (i := 7) rfl rfl | assumption) rfl ?_
  refine Ops.lss rfl rfl rfl ?_
  refine Ops.nil ?_
  refine Run.cond rfl (fun hc19 => ?_) (fun hc19 => ?_)
  · skip
    have hlt : i < nn := by have := of_decide_eq_true hc19; omega
    have hll := lst_len i
    refine Run.skip ?_
    refine Run.seq ?_
    refine Run.block ?_
    refine Run.region ?_
    refine Ops.load rfl Try.underlying40 rfl (by first | exact hst4.cell (i := 0) rfl rfl | exact hst4.cell (i := 1) rfl rfl | exact hst4.cell (i := 2) rfl rfl | exact hst4.cell (i := 3) rfl rfl | exact hst4.cell (i := 4) rfl rfl | exact hst4.cell (i := 5) rfl rfl | exact hst4.cell (i := 6) rfl rfl | exact hst4.cell (i := 7) rfl rfl | assumption) rfl ?_
    refine Ops.move rfl rfl ?_
    refine Ops.buildSlice [.int .i64 (i : Int)] hst4 rfl Try.underlying41 sz3 zr3 rfl rfl (by kernel_rfl) rfl (fun g4 w4 hst4 hg4 => ?_)
    refine Ops.call rfl rfl Try.func18 (by kernel_rfl) (by kernel_rfl) rfl (iSend g1 u _ (lst i) [(i : Int)] ((i - 64 : Nat) : Int) _ (by omega) (by simp) (by omega) (Rd_of_blk (m := 1) hst4 (i := 6) rfl rfl (by simp [Value.oneCell'])) (St.sepI (H1 := iNet g1 u (lst (i)) ((i - 64 : Nat) : Int)) hst4 4 rfl) (St.hand (H1 := iNet g1 u (lst (i)) ((i - 64 : Nat) : Int)) hst4)) ?_
    rintro x w5 ⟨rfl, v5, hq⟩
    rw [show snds (lst i, ((i - 64 : Nat) : Int)) [(i : Int)] = snd1 (lst i, ((i - 64 : Nat) : Int)) (i : Int) from rfl, lst_step] at hq
    have hst5 : St w (fps []) (iNet g1 v5 (lst (i + 1)) ((i + 1 - 64 : Nat) : Int) ++ [blk gB [.int .u8 k] 5, blk gR [.bool false] 4, blk gP [.pointer (some ⟨g1, 0, none⟩)] 40, blk gN [.int .i64 (nn : Int)] 3]) w5 := (St.back (H1 := iNet g1 u (lst (i)) ((i - 64 : Nat) : Int)) hst4 hq).sub (List.sublist_append_left (iNet g1 v5 (lst (i + 1)) ((i + 1 - 64 : Nat) : Int) ++ [blk gB [.int .u8 k] 5, blk gR [.bool false] 4, blk gP [.pointer (some ⟨g1, 0, none⟩)] 40, blk gN [.int .i64 (nn : Int)] 3]) _)
    refine ⟨_, rfl, ?_⟩ --ST hst5
    refine Ops.nil ?_
    refine Run.endBlk ?_
    refine Run.region ?_
    refine Ops.move rfl rfl ?_
    first | refine Ops.addI rfl rfl rfl (by omega) (by omega) ?_ | refine Ops.add rfl rfl rfl ?_
    refine Ops.assign rfl rfl ?_
    refine Ops.nil ?_
    refine Run.sub (e' := [(3, .pointer (some ⟨gB, 0, none⟩)), (4, .pointer (some ⟨gR, 0, none⟩)), (5, .pointer (some ⟨gP, 0, none⟩)), (6, .pointer (some ⟨gN, 0, none⟩)), (7, .int .i64 ((i + 1 : Nat) : Int))]) (subB_spec ⟨rfl, rfl, rfl, rfl, rfl, trivial⟩) (Run.stop ⟨nn - (i + 1), by omega, i + 1, v5, rfl, by omega, rfl, hst5⟩)
  · skip
    obtain rfl : i = nn := by have := of_decide_eq_false hc19; omega
    have hll := lst_len i
    refine Run.exit _ rfl ?_
    refine Run.seq ?_
    refine Run.region ?_
    refine Ops.alloc _ hst4 zr3 rfl rfl (fun gC wC hstC hgC => ?_) --ST hstC
    first | refine Ops.store 0 [_] hstC rfl rfl rfl rfl sz3 rfl (by simp [Value.oneCell']) (by simp) (fun w5 hst5 => ?_) | refine Ops.store 1 [_] hstC rfl rfl rfl rfl sz3 rfl (by simp [Value.oneCell']) (by simp) (fun w5 hst5 => ?_) | refine Ops.store 2 [_] hstC rfl rfl rfl rfl sz3 rfl (by simp [Value.oneCell']) (by simp) (fun w5 hst5 => ?_) | refine Ops.store 3 [_] hstC rfl rfl rfl rfl sz3 rfl (by simp [Value.oneCell']) (by simp) (fun w5 hst5 => ?_) | refine Ops.store 4 [_] hstC rfl rfl rfl rfl sz3 rfl (by simp [Value.oneCell']) (by simp) (fun w5 hst5 => ?_) | refine Ops.store 5 [_] hstC rfl rfl rfl rfl sz3 rfl (by simp [Value.oneCell']) (by simp) (fun w5 hst5 => ?_) | refine Ops.store 6 [_] hstC rfl rfl rfl rfl sz3 rfl (by simp [Value.oneCell']) (by simp) (fun w5 hst5 => ?_) | refine Ops.store 7 [_] hstC rfl rfl rfl rfl sz3 rfl (by simp [Value.oneCell']) (by simp) (fun w5 hst5 => ?_)
    refine Ops.nil ?_
    refine Run.seq ?_
    refine Run.seq ?_
    refine Run.region ?_
    refine Ops.load rfl Try.underlying40 rfl (by first | exact hst5.cell (i := 0) rfl rfl | exact hst5.cell (i := 1) rfl rfl | exact hst5.cell (i := 2) rfl rfl | exact hst5.cell (i := 3) rfl rfl | exact hst5.cell (i := 4) rfl rfl | exact hst5.cell (i := 5) rfl rfl | exact hst5.cell (i := 6) rfl rfl | exact hst5.cell (i := 7) rfl rfl | assumption) rfl ?_
    refine Ops.call rfl rfl Try.func29 (by kernel_rfl) (by kernel_rfl) rfl (iAll g1 _ (St.nil _ _)) ?_
    rintro x w8 ⟨c, rfl, hq⟩
    have hst8 := (St.back (H1 := []) hst5 hq).perm List.perm_append_comm
    refine ⟨_, rfl, ?_⟩ --ST hst8
    refine Ops.nil ?_
    refine Run.block ?_
    obtain ⟨nn, hnx⟩ : ∃ nn, nn = i := ⟨_, rfl⟩
    subst hnx
    refine Run.range (fun cnt : Nat => iNet g1 u (lst (nn)) ((nn - 64 : Nat) : Int) ++ [blk gB [.int .u8 k] 5, blk gR [.bool false] 4, blk gP [.pointer (some ⟨g1, 0, none⟩)] 40, blk gN [.int .i64 (nn : Int)] 3, blk gC [.int .i64 (cnt : Int)] 3, blk c [.pointer (some ⟨g1, 0, none⟩)] 40]) (fun j cnt => cnt = j ∧ (j : Int) ≤ k % 70) (fun cd cnt => cd = .exit 2 ∧ (cnt : Int) = k % 70 + 1 ∧ cnt ≤ (lst nn).length) rfl rfl Try.func37 (by kernel_rfl) (by kernel_rfl) (iIter g1 c u (lst nn) (by omega)) (fun i => rfl) (by kernel_rfl) 0 ⟨rfl, by omega⟩ hst8 (fun i b W _ h => ⟨h.cell (i := 7) rfl rfl, h.cell (i := 0) rfl rfl, h.rd (i := 1) rfl⟩) ?_ ?_ ?_
    · skip
      rintro j cnt D l r W hj ⟨rfl, hjm⟩ hst9
      have hx := lst_at nn cnt hj
      refine Run.sub (e' := [(28, .int .i64 ((lst nn).getD cnt 0)), (3, .pointer (some ⟨gB, 0, none⟩)), (4, .pointer (some ⟨gR, 0, none⟩)), (5, .pointer (some ⟨gP, 0, none⟩)), (6, .pointer (some ⟨gN, 0, none⟩)), (8, .pointer (some ⟨gC, 0, none⟩))]) (subB_spec ⟨rfl, rfl, rfl, rfl, rfl, rfl, trivial⟩) ?_ --ST hst9
      refine Run.region ?_
      refine Ops.assign rfl rfl ?_
      refine Ops.nil ?_
      refine Run.stop ⟨cnt, hst9, fun r' W2 hst10 => ?_⟩ --ST hst10
      refine Run.block ?_
      refine Run.seq ?_
      refine Run.seq ?_
      refine Run.draw (fun w => w.cell? ⟨gN, 0, none⟩ = some (.int .i64 (nn : Int)) ∧ w.cell? ⟨gP, 0, none⟩ = some (.pointer (some ⟨g1, 0, none⟩)) ∧ w.cell? ⟨gC, 0, none⟩ = some (.int .i64 (cnt : Int)) ∧ w.cell? ⟨gB, 0, none⟩ = some (.int .u8 k)) none (by kernel_rfl) (fun w6 hw6 => ?_)
      have hst6 := hst10.idle (drew_fr _)
      rw [← hw6] at hst6
      clear hw6
      have hS : (fun w => w.cell? ⟨gN, 0, none⟩ = some (.int .i64 (nn : Int)) ∧ w.cell? ⟨gP, 0, none⟩ = some (.pointer (some ⟨g1, 0, none⟩)) ∧ w.cell? ⟨gC, 0, none⟩ = some (.int .i64 (cnt : Int)) ∧ w.cell? ⟨gB, 0, none⟩ = some (.int .u8 k)) w6 := ⟨hst6.cell (i := 5) rfl rfl, hst6.cell (i := 4) rfl rfl, hst6.cell (i := 6) rfl rfl, hst6.cell (i := 2) rfl rfl⟩
      refine Any.take 0 rfl rfl rfl rfl (by kernel_rfl) (fun _ _ _ _ _ h => h) (Ex.move rfl).s hS ?_
      refine Any.take 1 rfl rfl rfl rfl (by kernel_rfl) (fun _ _ _ _ _ h => h) (ExS.load rfl Try.underlying3 rfl (fun w hS => hS.1)) hS ?_
      refine Any.take 2 rfl rfl rfl rfl (by kernel_rfl) (fun _ _ _ _ _ h => h) (ExS.load rfl Try.underlying40 rfl (fun w hS => hS.2.1)) hS ?_
      refine Any.take 5 rfl rfl rfl rfl (by kernel_rfl) (fun _ _ _ _ _ h => h) (ExS.load rfl Try.underlying3 rfl (fun w hS => hS.2.2.1)) hS ?_
      refine Any.one 3 (by kernel_rfl) rfl rfl (One.of_ops rfl ?_)
      refine Ops.call rfl rfl Try.func30 (by kernel_rfl) (by kernel_rfl) rfl (iLen g1 u (lst nn) ((nn - 64 : Nat) : Int) _ (St.hand (H1 := iNet g1 u (lst (nn)) ((nn - 64 : Nat) : Int)) hst6)) ?_
      rintro x wq ⟨rfl, rfl⟩
      refine ⟨_, rfl, Ops.stop ⟨.inr hS, ?_⟩⟩
      first | refine Any.take 4 rfl rfl rfl rfl (by kernel_rfl) (fun _ _ _ _ _ h => h) (Ex.subI rfl rfl  (by omega) (by omega)).s hS ?_ | refine Any.take 4 rfl rfl rfl rfl (by kernel_rfl) (fun _ _ _ _ _ h => h) (Ex.sub rfl rfl).s hS ?_
      first | refine Any.take 6 rfl rfl rfl rfl (by kernel_rfl) (fun _ _ _ _ _ h => h) (Ex.addI rfl rfl  (by omega) (by omega)).s hS ?_ | refine Any.take 6 rfl rfl rfl rfl (by kernel_rfl) (fun _ _ _ _ _ h => h) (Ex.add rfl rfl).s hS ?_
      refine Any.take 7 rfl rfl rfl rfl (by kernel_rfl) (fun _ _ _ _ _ h => h) (Ex.eq (Ex.neq rfl rfl) (congrArg Value.bool (show _ = false from by rw [hx]; simp; omega))).s hS ?_
      refine Any.done (by kernel_rfl) ?_
      refine Run.condF rfl (rfl) ?_
      refine Run.skip ?_
      refine Run.seq ?_
      refine Run.region ?_
      refine Ops.load rfl Try.underlying3 rfl (by first | exact hst6.cell (i := 0) rfl rfl | exact hst6.cell (i := 1) rfl rfl | exact hst6.cell (i := 2) rfl rfl | exact hst6.cell (i := 3) rfl rfl | exact hst6.cell (i := 4) rfl rfl | exact hst6.cell (i := 5) rfl rfl | exact hst6.cell (i := 6) rfl rfl | exact hst6.cell (i := 7) rfl rfl | assumption) rfl ?_
      first | refine Ops.addI rfl rfl rfl (by omega) (by omega) ?_ | refine Ops.add rfl rfl rfl ?_
      first | refine Ops.store 0 [_] hst6 rfl rfl rfl rfl sz3 rfl (by simp [Value.oneCell']) (by simp) (fun w7 hst7 => ?_) | refine Ops.store 1 [_] hst6 rfl rfl rfl rfl sz3 rfl (by simp [Value.oneCell']) (by simp) (fun w7 hst7 => ?_) | refine Ops.store 2 [_] hst6 rfl rfl rfl rfl sz3 rfl (by simp [Value.oneCell']) (by simp) (fun w7 hst7 => ?_) | refine Ops.store 3 [_] hst6 rfl rfl rfl rfl sz3 rfl (by simp [Value.oneCell']) (by simp) (fun w7 hst7 => ?_) | refine Ops.store 4 [_] hst6 rfl rfl rfl rfl sz3 rfl (by simp [Value.oneCell']) (by simp) (fun w7 hst7 => ?_) | refine Ops.store 5 [_] hst6 rfl rfl rfl rfl sz3 rfl (by simp [Value.oneCell']) (by simp) (fun w7 hst7 => ?_) | refine Ops.store 6 [_] hst6 rfl rfl rfl rfl sz3 rfl (by simp [Value.oneCell']) (by simp) (fun w7 hst7 => ?_) | refine Ops.store 7 [_] hst6 rfl rfl rfl rfl sz3 rfl (by simp [Value.oneCell']) (by simp) (fun w7 hst7 => ?_)
      refine Ops.nil ?_
      refine Run.seq ?_
      refine Run.region ?_
      refine Ops.load rfl Try.underlying3 rfl (by first | exact hst7.cell (i := 0) rfl rfl | exact hst7.cell (i := 1) rfl rfl | exact hst7.cell (i := 2) rfl rfl | exact hst7.cell (i := 3) rfl rfl | exact hst7.cell (i := 4) rfl rfl | exact hst7.cell (i := 5) rfl rfl | exact hst7.cell (i := 6) rfl rfl | exact hst7.cell (i := 7) rfl rfl | assumption) rfl ?_
      refine Ops.load rfl Try.underlying5 rfl (by first | exact hst7.cell (i := 0) rfl rfl | exact hst7.cell (i := 1) rfl rfl | exact hst7.cell (i := 2) rfl rfl | exact hst7.cell (i := 3) rfl rfl | exact hst7.cell (i := 4) rfl rfl | exact hst7.cell (i := 5) rfl rfl | exact hst7.cell (i := 6) rfl rfl | exact hst7.cell (i := 7) rfl rfl | assumption) rfl ?_
      first | refine Ops.remI rfl rfl rfl (by omega) (by omega) ?_ | refine Ops.rem rfl rfl rfl (by omega) ?_
      first | refine Ops.convQ rfl Try.underlying5 Try.underlying3 (wrap_i64_in (by omega) (by omega)) rfl ?_ | refine Ops.conv rfl Try.underlying5 Try.underlying3 rfl ?_
      refine Ops.gtr rfl rfl rfl ?_
      refine Ops.nil ?_
      refine Run.cond rfl (fun hc43 => ?_) (fun hc43 => ?_)
      · skip
        exact Run.exitR rfl (cnt + 1) ⟨rfl, by have := of_decide_eq_true hc43; omega, by omega⟩ hst7
      · skip
        refine Run.skip ?_
        refine Run.endBlk ?_
        exact Run.endR (cnt + 1) ⟨rfl, by have := of_decide_eq_false hc43; omega⟩ hst7
    · skip
      rintro cnt D W ⟨rfl, hcm⟩ hst11
      have hcnt : ((lst nn).length : Int) = min ((lst nn).length : Int) (k % 70 + 1) := by omega
      obtain ⟨cnt, hcc⟩ : ∃ cnt, cnt = (lst nn).length := ⟨_, rfl⟩
      rw [← hcc] at hst11 hcm
      have hcnt : (cnt : Int) = min ((lst nn).length : Int) (k % 70 + 1) := by omega --ST hst11
      refine Run.endBlk ?_
      refine Run.seq ?_
      refine Run.np ?_
      refine Run.draw (fun w => w.cell? ⟨gN, 0, none⟩ = some (.int .i64 (nn : Int)) ∧ w.cell? ⟨gP, 0, none⟩ = some (.pointer (some ⟨g1, 0, none⟩)) ∧ w.cell? ⟨gC, 0, none⟩ = some (.int .i64 (cnt : Int)) ∧ w.cell? ⟨gB, 0, none⟩ = some (.int .u8 k)) (some 25) (by kernel_rfl) (fun w8 hw8 => ?_)
      have hst8 := hst11.idle (drew_fr _)
      rw [← hw8] at hst8
      clear hw8
      have hS : (fun w => w.cell? ⟨gN, 0, none⟩ = some (.int .i64 (nn : Int)) ∧ w.cell? ⟨gP, 0, none⟩ = some (.pointer (some ⟨g1, 0, none⟩)) ∧ w.cell? ⟨gC, 0, none⟩ = some (.int .i64 (cnt : Int)) ∧ w.cell? ⟨gB, 0, none⟩ = some (.int .u8 k)) w8 := ⟨hst8.cell (i := 5) rfl rfl, hst8.cell (i := 4) rfl rfl, hst8.cell (i := 6) rfl rfl, hst8.cell (i := 2) rfl rfl⟩
      refine Any.take 0 rfl rfl rfl rfl (by kernel_rfl) (fun _ _ _ _ _ h => h) (ExS.load rfl Try.underlying40 rfl (fun w hS => hS.2.1)) hS ?_
      refine Any.take 2 rfl rfl rfl rfl (by kernel_rfl) (fun _ _ _ _ _ h => h) (ExS.load rfl Try.underlying3 rfl (fun w hS => hS.1)) hS ?_
      refine Any.take 3 rfl rfl rfl rfl (by kernel_rfl) (fun _ _ _ _ _ h => h) (Ex.min2 rfl rfl rfl).s hS ?_
      refine Any.one 1 (by kernel_rfl) rfl rfl (One.of_ops rfl ?_)
      refine Ops.call rfl rfl Try.func30 (by kernel_rfl) (by kernel_rfl) rfl (iLen g1 u (lst nn) ((nn - 64 : Nat) : Int) _ (St.hand (H1 := iNet g1 u (lst (nn)) ((nn - 64 : Nat) : Int)) hst8)) ?_
      rintro x wq ⟨rfl, rfl⟩
      refine ⟨_, rfl, Ops.stop ⟨.inr hS, ?_⟩⟩
      refine Any.take 4 rfl rfl rfl rfl (by kernel_rfl) (fun _ _ _ _ _ h => h) (Ex.eq (Ex.eql rfl rfl) (congrArg Value.bool (show _ = true from by simp; omega))).s hS ?_
      refine Any.take 5 rfl rfl rfl rfl (by kernel_rfl) (fun _ _ _ _ _ h => h) (Ex.move rfl).s hS ?_
      first | refine Any.take 6 rfl rfl rfl rfl (by kernel_rfl) (fun _ _ _ _ _ h => h) (ExS.g (ExS.load rfl Try.underlying40 rfl (fun w hS => hS.2.1))) hS ?_ | refine Any.pass 6 rfl rfl rfl rfl (by kernel_rfl) (fun _ _ _ _ _ h => h) hS ?_
      first | refine Any.take 8 rfl rfl rfl rfl (by kernel_rfl) (fun _ _ _ _ _ h => h) (ExS.g (ExS.load rfl Try.underlying3 rfl (fun w hS => hS.1))) hS ?_ | refine Any.pass 8 rfl rfl rfl rfl (by kernel_rfl) (fun _ _ _ _ _ h => h) hS ?_
      first | refine Any.take 9 rfl rfl rfl rfl (by kernel_rfl) (fun _ _ _ _ _ h => h) (ExS.g (ExS.load rfl Try.underlying40 rfl (fun w hS => hS.2.1))) hS ?_ | refine Any.pass 9 rfl rfl rfl rfl (by kernel_rfl) (fun _ _ _ _ _ h => h) hS ?_
      refine Any.one 7 (by kernel_rfl) rfl rfl (One.g <| One.of_ops rfl ?_)
      refine Ops.call rfl rfl Try.func31 (by kernel_rfl) (by kernel_rfl) rfl (iLost g1 u (lst nn) ((nn - 64 : Nat) : Int) _ (St.hand (H1 := iNet g1 u (lst (nn)) ((nn - 64 : Nat) : Int)) hst8)) ?_
      rintro x wq ⟨rfl, rfl⟩
      refine ⟨_, rfl, Ops.stop ⟨.inr hS, ?_⟩⟩
      refine Any.one 10 (by kernel_rfl) rfl rfl (One.g <| One.of_ops rfl ?_)
      refine Ops.call rfl rfl Try.func30 (by kernel_rfl) (by kernel_rfl) rfl (iLen g1 u (lst nn) ((nn - 64 : Nat) : Int) _ (St.hand (H1 := iNet g1 u (lst (nn)) ((nn - 64 : Nat) : Int)) hst8)) ?_
      rintro x wq ⟨rfl, rfl⟩
      refine ⟨_, rfl, Ops.stop ⟨.inr hS, ?_⟩⟩
      first | refine Any.take 11 rfl rfl rfl rfl (by kernel_rfl) (fun _ _ _ _ _ h => h) (ExS.g (Ex.subI rfl rfl  (by omega) (by omega)).s) hS ?_ | refine Any.take 11 rfl rfl rfl rfl (by kernel_rfl) (fun _ _ _ _ _ h => h) (ExS.g (Ex.sub rfl rfl).s) hS ?_ | refine Any.pass 11 rfl rfl rfl rfl (by kernel_rfl) (fun _ _ _ _ _ h => h) hS ?_
      first | refine Any.take 12 rfl rfl rfl rfl (by kernel_rfl) (fun _ _ _ _ _ h => h) (ExS.g (Ex.eq (Ex.eql rfl rfl) (congrArg Value.bool (show _ = true from by simp; omega))).s) hS ?_ | refine Any.pass 12 rfl rfl rfl rfl (by kernel_rfl) (fun _ _ _ _ _ h => h) hS ?_
      first | refine Any.take 13 rfl rfl rfl rfl (by kernel_rfl) (fun _ _ _ _ _ h => h) (Ex.pickT rfl rfl).s hS ?_ | refine Any.take 13 rfl rfl rfl rfl (by kernel_rfl) (fun _ _ _ _ _ h => h) (Ex.pickF rfl rfl).s hS ?_
      refine Any.take 14 rfl rfl rfl rfl (by kernel_rfl) (fun _ _ _ _ _ h => h) (Ex.move rfl).s hS ?_
      first | refine Any.take 15 rfl rfl rfl rfl (by kernel_rfl) (fun _ _ _ _ _ h => h) (ExS.g (ExS.load rfl Try.underlying3 rfl (fun w hS => hS.2.2.1))) hS ?_ | refine Any.pass 15 rfl rfl rfl rfl (by kernel_rfl) (fun _ _ _ _ _ h => h) hS ?_
      first | refine Any.take 16 rfl rfl rfl rfl (by kernel_rfl) (fun _ _ _ _ _ h => h) (ExS.g (ExS.load rfl Try.underlying40 rfl (fun w hS => hS.2.1))) hS ?_ | refine Any.pass 16 rfl rfl rfl rfl (by kernel_rfl) (fun _ _ _ _ _ h => h) hS ?_
      first | refine Any.take 18 rfl rfl rfl rfl (by kernel_rfl) (fun _ _ _ _ _ h => h) (ExS.g (ExS.load rfl Try.underlying5 rfl (fun w hS => hS.2.2.2))) hS ?_ | refine Any.pass 18 rfl rfl rfl rfl (by kernel_rfl) (fun _ _ _ _ _ h => h) hS ?_
      first | refine Any.take 19 rfl rfl rfl rfl (by kernel_rfl) (fun _ _ _ _ _ h => h) (ExS.g (Ex.remI rfl rfl  (by omega) (by omega)).s) hS ?_ | refine Any.take 19 rfl rfl rfl rfl (by kernel_rfl) (fun _ _ _ _ _ h => h) (ExS.g (Ex.rem rfl rfl  (by omega)).s) hS ?_ | refine Any.pass 19 rfl rfl rfl rfl (by kernel_rfl) (fun _ _ _ _ _ h => h) hS ?_
      first | refine Any.take 20 rfl rfl rfl rfl (by kernel_rfl) (fun _ _ _ _ _ h => h) (ExS.g (Ex.convQ rfl Try.underlying5 Try.underlying3 (wrap_i64_in (by omega) (by omega))).s) hS ?_ | refine Any.take 20 rfl rfl rfl rfl (by kernel_rfl) (fun _ _ _ _ _ h => h) (ExS.g (Ex.conv rfl Try.underlying5 Try.underlying3).s) hS ?_ | refine Any.pass 20 rfl rfl rfl rfl (by kernel_rfl) (fun _ _ _ _ _ h => h) hS ?_
      first | refine Any.take 21 rfl rfl rfl rfl (by kernel_rfl) (fun _ _ _ _ _ h => h) (ExS.g (Ex.addI rfl rfl  (by omega) (by omega)).s) hS ?_ | refine Any.take 21 rfl rfl rfl rfl (by kernel_rfl) (fun _ _ _ _ _ h => h) (ExS.g (Ex.add rfl rfl).s) hS ?_ | refine Any.pass 21 rfl rfl rfl rfl (by kernel_rfl) (fun _ _ _ _ _ h => h) hS ?_
      refine Any.one 17 (by kernel_rfl) rfl rfl (One.g <| One.of_ops rfl ?_)
      refine Ops.call rfl rfl Try.func30 (by kernel_rfl) (by kernel_rfl) rfl (iLen g1 u (lst nn) ((nn - 64 : Nat) : Int) _ (St.hand (H1 := iNet g1 u (lst (nn)) ((nn - 64 : Nat) : Int)) hst8)) ?_
      rintro x wq ⟨rfl, rfl⟩
      refine ⟨_, rfl, Ops.stop ⟨.inr hS, ?_⟩⟩
      first | refine Any.take 22 rfl rfl rfl rfl (by kernel_rfl) (fun _ _ _ _ _ h => h) (ExS.g (Ex.min2 rfl rfl rfl).s) hS ?_ | refine Any.pass 22 rfl rfl rfl rfl (by kernel_rfl) (fun _ _ _ _ _ h => h) hS ?_
      first | refine Any.take 23 rfl rfl rfl rfl (by kernel_rfl) (fun _ _ _ _ _ h => h) (ExS.g (Ex.eq (Ex.eql rfl rfl) (congrArg Value.bool (show _ = true from by rw [← hcnt]; simp))).s) hS ?_ | refine Any.pass 23 rfl rfl rfl rfl (by kernel_rfl) (fun _ _ _ _ _ h => h) hS ?_
      first | refine Any.take 24 rfl rfl rfl rfl (by kernel_rfl) (fun _ _ _ _ _ h => h) (Ex.pickT rfl rfl).s hS ?_ | refine Any.take 24 rfl rfl rfl rfl (by kernel_rfl) (fun _ _ _ _ _ h => h) (Ex.pickF rfl rfl).s hS ?_
      refine Any.one 25 (by kernel_rfl) rfl rfl (One.of_ops rfl ?_)
      first | refine Ops.store 0 [_] hst8 rfl rfl rfl rfl sz4 rfl (by simp [Value.oneCell']) (by simp) (fun w9 hst9 => Ops.stop ⟨.inl rfl, ?_⟩) | refine Ops.store 1 [_] hst8 rfl rfl rfl rfl sz4 rfl (by simp [Value.oneCell']) (by simp) (fun w9 hst9 => Ops.stop ⟨.inl rfl, ?_⟩) | refine Ops.store 2 [_] hst8 rfl rfl rfl rfl sz4 rfl (by simp [Value.oneCell']) (by simp) (fun w9 hst9 => Ops.stop ⟨.inl rfl, ?_⟩) | refine Ops.store 3 [_] hst8 rfl rfl rfl rfl sz4 rfl (by simp [Value.oneCell']) (by simp) (fun w9 hst9 => Ops.stop ⟨.inl rfl, ?_⟩) | refine Ops.store 4 [_] hst8 rfl rfl rfl rfl sz4 rfl (by simp [Value.oneCell']) (by simp) (fun w9 hst9 => Ops.stop ⟨.inl rfl, ?_⟩) | refine Ops.store 5 [_] hst8 rfl rfl rfl rfl sz4 rfl (by simp [Value.oneCell']) (by simp) (fun w9 hst9 => Ops.stop ⟨.inl rfl, ?_⟩) | refine Ops.store 6 [_] hst8 rfl rfl rfl rfl sz4 rfl (by simp [Value.oneCell']) (by simp) (fun w9 hst9 => Ops.stop ⟨.inl rfl, ?_⟩) | refine Ops.store 7 [_] hst8 rfl rfl rfl rfl sz4 rfl (by simp [Value.oneCell']) (by simp) (fun w9 hst9 => Ops.stop ⟨.inl rfl, ?_⟩)
      refine Any.done (by kernel_rfl) ?_
      refine Run.retN _ (.cons (hst9.get (i := 8) rfl) (.nil _)) (fun a ha => resC rfl rfl (run_load1 Try.underlying4 rfl ((hst9.putOb 8 rfl (.deferred none)).cell (i := 3) rfl rfl)) ha) ?_
      exact ⟨rfl, (hst9.putOb 8 rfl (.deferred none)).sub (List.nil_sublist _)⟩
    · skip
      rintro cd cnt D W ⟨rfl, hc1, hc2⟩ hst11
      have hcnt : (cnt : Int) = min ((lst nn).length : Int) (k % 70 + 1) := by omega --ST hst11 --CODE exit 2
      refine Run.exit _ rfl ?_
      refine Run.seq ?_
      refine Run.np ?_
      refine Run.draw (fun w => w.cell? ⟨gN, 0, none⟩ = some (.int .i64 (nn : Int)) ∧ w.cell? ⟨gP, 0, none⟩ = some (.pointer (some ⟨g1, 0, none⟩)) ∧ w.cell? ⟨gC, 0, none⟩ = some (.int .i64 (cnt : Int)) ∧ w.cell? ⟨gB, 0, none⟩ = some (.int .u8 k)) (some 25) (by kernel_rfl) (fun w10 hw10 => ?_)
      have hst10 := hst11.idle (drew_fr _)
      rw [← hw10] at hst10
      clear hw10
      have hS : (fun w => w.cell? ⟨gN, 0, none⟩ = some (.int .i64 (nn : Int)) ∧ w.cell? ⟨gP, 0, none⟩ = some (.pointer (some ⟨g1, 0, none⟩)) ∧ w.cell? ⟨gC, 0, none⟩ = some (.int .i64 (cnt : Int)) ∧ w.cell? ⟨gB, 0, none⟩ = some (.int .u8 k)) w10 := ⟨hst10.cell (i := 5) rfl rfl, hst10.cell (i := 4) rfl rfl, hst10.cell (i := 6) rfl rfl, hst10.cell (i := 2) rfl rfl⟩
      refine Any.take 0 rfl rfl rfl rfl (by kernel_rfl) (fun _ _ _ _ _ h => h) (ExS.load rfl Try.underlying40 rfl (fun w hS => hS.2.1)) hS ?_
      refine Any.take 2 rfl rfl rfl rfl (by kernel_rfl) (fun _ _ _ _ _ h => h) (ExS.load rfl Try.underlying3 rfl (fun w hS => hS.1)) hS ?_
      refine Any.take 3 rfl rfl rfl rfl (by kernel_rfl) (fun _ _ _ _ _ h => h) (Ex.min2 rfl rfl rfl).s hS ?_
      refine Any.one 1 (by kernel_rfl) rfl rfl (One.of_ops rfl ?_)
      refine Ops.call rfl rfl Try.func30 (by kernel_rfl) (by kernel_rfl) rfl (iLen g1 u (lst nn) ((nn - 64 : Nat) : Int) _ (St.hand (H1 := iNet g1 u (lst (nn)) ((nn - 64 : Nat) : Int)) hst10)) ?_
      rintro x wq ⟨rfl, rfl⟩
      refine ⟨_, rfl, Ops.stop ⟨.inr hS, ?_⟩⟩
      refine Any.take 4 rfl rfl rfl rfl (by kernel_rfl) (fun _ _ _ _ _ h => h) (Ex.eq (Ex.eql rfl rfl) (congrArg Value.bool (show _ = true from by simp; omega))).s hS ?_
      refine Any.take 5 rfl rfl rfl rfl (by kernel_rfl) (fun _ _ _ _ _ h => h) (Ex.move rfl).s hS ?_
      first | refine Any.take 6 rfl rfl rfl rfl (by kernel_rfl) (fun _ _ _ _ _ h => h) (ExS.g (ExS.load rfl Try.underlying40 rfl (fun w hS => hS.2.1))) hS ?_ | refine Any.pass 6 rfl rfl rfl rfl (by kernel_rfl) (fun _ _ _ _ _ h => h) hS ?_
      first | refine Any.take 8 rfl rfl rfl rfl (by kernel_rfl) (fun _ _ _ _ _ h => h) (ExS.g (ExS.load rfl Try.underlying3 rfl (fun w hS => hS.1))) hS ?_ | refine Any.pass 8 rfl rfl rfl rfl (by kernel_rfl) (fun _ _ _ _ _ h => h) hS ?_
      first | refine Any.take 9 rfl rfl rfl rfl (by kernel_rfl) (fun _ _ _ _ _ h => h) (ExS.g (ExS.load rfl Try.underlying40 rfl (fun w hS => hS.2.1))) hS ?_ | refine Any.pass 9 rfl rfl rfl rfl (by kernel_rfl) (fun _ _ _ _ _ h => h) hS ?_
      refine Any.one 7 (by kernel_rfl) rfl rfl (One.g <| One.of_ops rfl ?_)
      refine Ops.call rfl rfl Try.func31 (by kernel_rfl) (by kernel_rfl) rfl (iLost g1 u (lst nn) ((nn - 64 : Nat) : Int) _ (St.hand (H1 := iNet g1 u (lst (nn)) ((nn - 64 : Nat) : Int)) hst10)) ?_
      rintro x wq ⟨rfl, rfl⟩
      refine ⟨_, rfl, Ops.stop ⟨.inr hS, ?_⟩⟩
      refine Any.one 10 (by kernel_rfl) rfl rfl (One.g <| One.of_ops rfl ?_)
      refine Ops.call rfl rfl Try.func30 (by kernel_rfl) (by kernel_rfl) rfl (iLen g1 u (lst nn) ((nn - 64 : Nat) : Int) _ (St.hand (H1 := iNet g1 u (lst (nn)) ((nn - 64 : Nat) : Int)) hst10)) ?_
      rintro x wq ⟨rfl, rfl⟩
      refine ⟨_, rfl, Ops.stop ⟨.inr hS, ?_⟩⟩
      first | refine Any.take 11 rfl rfl rfl rfl (by kernel_rfl) (fun _ _ _ _ _ h => h) (ExS.g (Ex.subI rfl rfl  (by omega) (by omega)).s) hS ?_ | refine Any.take 11 rfl rfl rfl rfl (by kernel_rfl) (fun _ _ _ _ _ h => h) (ExS.g (Ex.sub rfl rfl).s) hS ?_ | refine Any.pass 11 rfl rfl rfl rfl (by kernel_rfl) (fun _ _ _ _ _ h => h) hS ?_
      first | refine Any.take 12 rfl rfl rfl rfl (by kernel_rfl) (fun _ _ _ _ _ h => h) (ExS.g (Ex.eq (Ex.eql rfl rfl) (congrArg Value.bool (show _ = true from by simp; omega))).s) hS ?_ | refine Any.pass 12 rfl rfl rfl rfl (by kernel_rfl) (fun _ _ _ _ _ h => h) hS ?_
      first | refine Any.take 13 rfl rfl rfl rfl (by kernel_rfl) (fun _ _ _ _ _ h => h) (Ex.pickT rfl rfl).s hS ?_ | refine Any.take 13 rfl rfl rfl rfl (by kernel_rfl) (fun _ _ _ _ _ h => h) (Ex.pickF rfl rfl).s hS ?_
      refine Any.take 14 rfl rfl rfl rfl (by kernel_rfl) (fun _ _ _ _ _ h => h) (Ex.move rfl).s hS ?_
      first | refine Any.take 15 rfl rfl rfl rfl (by kernel_rfl) (fun _ _ _ _ _ h => h) (ExS.g (ExS.load rfl Try.underlying3 rfl (fun w hS => hS.2.2.1))) hS ?_ | refine Any.pass 15 rfl rfl rfl rfl (by kernel_rfl) (fun _ _ _ _ _ h => h) hS ?_
      first | refine Any.take 16 rfl rfl rfl rfl (by kernel_rfl) (fun _ _ _ _ _ h => h) (ExS.g (ExS.load rfl Try.underlying40 rfl (fun w hS => hS.2.1))) hS ?_ | refine Any.pass 16 rfl rfl rfl rfl (by kernel_rfl) (fun _ _ _ _ _ h => h) hS ?_
      first | refine Any.take 18 rfl rfl rfl rfl (by kernel_rfl) (fun _ _ _ _ _ h => h) (ExS.g (ExS.load rfl Try.underlying5 rfl (fun w hS => hS.2.2.2))) hS ?_ | refine Any.pass 18 rfl rfl rfl rfl (by kernel_rfl) (fun _ _ _ _ _ h => h) hS ?_
      first | refine Any.take 19 rfl rfl rfl rfl (by kernel_rfl) (fun _ _ _ _ _ h => h) (ExS.g (Ex.remI rfl rfl  (by omega) (by omega)).s) hS ?_ | refine Any.take 19 rfl rfl rfl rfl (by kernel_rfl) (fun _ _ _ _ _ h => h) (ExS.g (Ex.rem rfl rfl  (by omega)).s) hS ?_ | refine Any.pass 19 rfl rfl rfl rfl (by kernel_rfl) (fun _ _ _ _ _ h => h) hS ?_
      first | refine Any.take 20 rfl rfl rfl rfl (by kernel_rfl) (fun _ _ _ _ _ h => h) (ExS.g (Ex.convQ rfl Try.underlying5 Try.underlying3 (wrap_i64_in (by omega) (by omega))).s) hS ?_ | refine Any.take 20 rfl rfl rfl rfl (by kernel_rfl) (fun _ _ _ _ _ h => h) (ExS.g (Ex.conv rfl Try.underlying5 Try.underlying3).s) hS ?_ | refine Any.pass 20 rfl rfl rfl rfl (by kernel_rfl) (fun _ _ _ _ _ h => h) hS ?_
      first | refine Any.take 21 rfl rfl rfl rfl (by kernel_rfl) (fun _ _ _ _ _ h => h) (ExS.g (Ex.addI rfl rfl  (by omega) (by omega)).s) hS ?_ | refine Any.take 21 rfl rfl rfl rfl (by kernel_rfl) (fun _ _ _ _ _ h => h) (ExS.g (Ex.add rfl rfl).s) hS ?_ | refine Any.pass 21 rfl rfl rfl rfl (by kernel_rfl) (fun _ _ _ _ _ h => h) hS ?_
      refine Any.one 17 (by kernel_rfl) rfl rfl (One.g <| One.of_ops rfl ?_)
      refine Ops.call rfl rfl Try.func30 (by kernel_rfl) (by kernel_rfl) rfl (iLen g1 u (lst nn) ((nn - 64 : Nat) : Int) _ (St.hand (H1 := iNet g1 u (lst (nn)) ((nn - 64 : Nat) : Int)) hst10)) ?_
      rintro x wq ⟨rfl, rfl⟩
      refine ⟨_, rfl, Ops.stop ⟨.inr hS, ?_⟩⟩
      first | refine Any.take 22 rfl rfl rfl rfl (by kernel_rfl) (fun _ _ _ _ _ h => h) (ExS.g (Ex.min2 rfl rfl rfl).s) hS ?_ | refine Any.pass 22 rfl rfl rfl rfl (by kernel_rfl) (fun _ _ _ _ _ h => h) hS ?_
      first | refine Any.take 23 rfl rfl rfl rfl (by kernel_rfl) (fun _ _ _ _ _ h => h) (ExS.g (Ex.eq (Ex.eql rfl rfl) (congrArg Value.bool (show _ = true from by rw [← hcnt]; simp))).s) hS ?_ | refine Any.pass 23 rfl rfl rfl rfl (by kernel_rfl) (fun _ _ _ _ _ h => h) hS ?_
      first | refine Any.take 24 rfl rfl rfl rfl (by kernel_rfl) (fun _ _ _ _ _ h => h) (Ex.pickT rfl rfl).s hS ?_ | refine Any.take 24 rfl rfl rfl rfl (by kernel_rfl) (fun _ _ _ _ _ h => h) (Ex.pickF rfl rfl).s hS ?_
      refine Any.one 25 (by kernel_rfl) rfl rfl (One.of_ops rfl ?_)
      first | refine Ops.store 0 [_] hst10 rfl rfl rfl rfl sz4 rfl (by simp [Value.oneCell']) (by simp) (fun w11 hst11 => Ops.stop ⟨.inl rfl, ?_⟩) | refine Ops.store 1 [_] hst10 rfl rfl rfl rfl sz4 rfl (by simp [Value.oneCell']) (by simp) (fun w11 hst11 => Ops.stop ⟨.inl rfl, ?_⟩) | refine Ops.store 2 [_] hst10 rfl rfl rfl rfl sz4 rfl (by simp [Value.oneCell']) (by simp) (fun w11 hst11 => Ops.stop ⟨.inl rfl, ?_⟩) | refine Ops.store 3 [_] hst10 rfl rfl rfl rfl sz4 rfl (by simp [Value.oneCell']) (by simp) (fun w11 hst11 => Ops.stop ⟨.inl rfl, ?_⟩) | refine Ops.store 4 [_] hst10 rfl rfl rfl rfl sz4 rfl (by simp [Value.oneCell']) (by simp) (fun w11 hst11 => Ops.stop ⟨.inl rfl, ?_⟩) | refine Ops.store 5 [_] hst10 rfl rfl rfl rfl sz4 rfl (by simp [Value.oneCell']) (by simp) (fun w11 hst11 => Ops.stop ⟨.inl rfl, ?_⟩) | refine Ops.store 6 [_] hst10 rfl rfl rfl rfl sz4 rfl (by simp [Value.oneCell']) (by simp) (fun w11 hst11 => Ops.stop ⟨.inl rfl, ?_⟩) | refine Ops.store 7 [_] hst10 rfl rfl rfl rfl sz4 rfl (by simp [Value.oneCell']) (by simp) (fun w11 hst11 => Ops.stop ⟨.inl rfl, ?_⟩)
      refine Any.done (by kernel_rfl) ?_
      refine Run.retN _ (.cons (hst11.get (i := 8) rfl) (.nil _)) (fun a ha => resC rfl rfl (run_load1 Try.underlying4 rfl ((hst11.putOb 8 rfl (.deferred none)).cell (i := 3) rfl rfl)) ha) ?_
      exact ⟨rfl, (hst11.putOb 8 rfl (.deferred none)).sub (List.nil_sublist _)⟩

end Go.Proofs.Ytiijlkebolfcpaa.Net8
