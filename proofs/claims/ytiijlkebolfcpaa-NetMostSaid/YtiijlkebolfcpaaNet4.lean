/- Net: walks. -/
import Derived.Test.YtiijlkebolfcpaaNet3
namespace Go.Proofs.Ytiijlkebolfcpaa.Net4
open Go Go.RowKit Go.Proofs.Ytiijlkebolfcpaa.Sx Go.Proofs.Ytiijlkebolfcpaa.Net Go.Proofs.Ytiijlkebolfcpaa.Net2 Go.Proofs.Ytiijlkebolfcpaa.Net3
set_option linter.unusedVariables false
set_option linter.unusedSimpArgs false
theorem sz3 : (Try.prog.info? 3).map (·.size) = some 1 := by kernel_rfl
theorem zr3 : (Try.prog.info? 3).map (·.zero) = some (some (.int .i64 0)) := by kernel_rfl
theorem zr43 : (Try.prog.info? 43).map (·.zero) = some (some (.agg #[.slice none 0 0, .int .i64 0])) := by kernel_rfl
theorem pl43 {fs : Array Field} (h : Try.prog.underlying 43 = some (.struct fs)) (w : World) : (fs.mapM fun f => do pure (f.offset, ← sizeOf f.type) : Sem (Array (Nat × Nat))).run Try.prog w = .ok #[(0, 1), (1, 1)] w := by
  rw [Try.underlying43] at h
  cases h
  kernel_rfl
set_option maxRecDepth 100000 in
set_option maxHeartbeats 2000000 in
theorem awake_calls (w : World) : Calls Try.prog 17 #[] w fun e w' => e = .returned (.bool true) ∧ St w (fps []) [] w' := by
  have hst : St w (fps []) [] w := St.nil _ _
  refine calls_of_runM Try.func17 rfl rfl ?_
  refine Run.seq ?_
  refine Run.region ?_
  refine Ops.assign rfl rfl ?_
  refine Ops.nil ?_
  refine Run.seq ?_
  refine Run.region ?_
  refine Ops.build [.slice none 0 0, .int .i64 0] rfl Try.underlying43 zr43 (pl43 Try.underlying43) (by kernel_rfl) rfl ?_
  refine Ops.box _ hst rfl rfl rfl (fun g1 wb hstb hgb => ?_) --ST hstb
  refine Ops.assign rfl rfl ?_
  refine Ops.nil ?_
  refine Run.seq ?_
  have hstN := hstb.push (Fr.refl _ _) (own_nil 3 1 _) (fun k hk => by cases hk) --ST hstN
  refine Run.region ?_
  refine Ops.move rfl rfl ?_
  refine Ops.buildSlice [.int .i64 1, .int .i64 2, .int .i64 3] hstN rfl Try.underlying41 sz3 zr3 rfl rfl (by kernel_rfl) rfl (fun g2 w2 hst2 hg2 => ?_)
  refine Ops.call rfl rfl Try.func18 (by kernel_rfl) (by kernel_rfl) rfl (iSend g1 (.slice none 0 0) _ [] [1, 2, 3] 0 _ (by simp) (by simp) (by omega) (Rd_of_blk (m := 3) hst2 (i := 2) rfl rfl (by simp [Value.oneCell'])) (fun k hk => (St.sepR (H1 := iNet g1 (.slice none 0 0) [] 0) hst2 (List.mem_singleton.2 rfl) (by cases hk; rfl))) (St.hand (H1 := iNet g1 (.slice none 0 0) [] 0) hst2)) ?_
  rintro x w3 ⟨rfl, v3, hq⟩
  have hst3 : St w (fps []) (iNet g1 v3 [1, 2, 3] 0) w3 := (St.back (H1 := iNet g1 (.slice none 0 0) [] 0) hst2 hq).sub (List.sublist_append_left _ _)
  refine ⟨_, rfl, ?_⟩ --ST hst3
  refine Ops.nil ?_
  refine Run.seq ?_
  refine Run.region ?_
  refine Ops.move rfl rfl ?_
  refine Ops.call rfl rfl Try.func19 (by kernel_rfl) (by kernel_rfl) rfl (iTake g1 v3 [1, 2, 3] 0 4 1 2 _ (by simp) (by decide) rfl hst3.owns) ?_
  rintro x w4 ⟨rfl, v4, hq⟩
  have hst4 : St w (fps []) (iNet g1 v4 [1, 3] 0) w4 := hst3.whole hq
  refine ⟨_, rfl, ?_⟩ --ST hst4
  refine Ops.move rfl rfl ?_
  refine Ops.extract rfl rfl rfl ?_
  refine Ops.extract rfl rfl rfl ?_
  refine Ops.assign rfl rfl ?_
  refine Ops.assign rfl rfl ?_
  refine Ops.nil ?_
  refine Run.seq ?_
  refine Run.region ?_
  refine Ops.move rfl rfl ?_
  refine Ops.call rfl rfl Try.func22 (by kernel_rfl) (by kernel_rfl) rfl (iTwice g1 v4 [1, 3] 0 (-1) 1 3 _ (by simp) (by decide) rfl (by omega) hst4.owns) ?_
  rintro x w5 ⟨rfl, v5, hq⟩
  have hst5 : St w (fps []) (iNet g1 v5 [1, 3, 3] 0) w5 := hst4.whole hq
  refine ⟨_, rfl, ?_⟩ --ST hst5
  refine Ops.assign rfl rfl ?_
  refine Ops.nil ?_
  refine Run.seq ?_
  refine Run.region ?_
  refine Ops.alloc _ hst5 zr3 rfl rfl (fun gS wS hstS hgS => ?_) --ST hstS
  first | refine Ops.store 0 [_] hstS rfl rfl rfl rfl sz3 rfl (by simp [Value.oneCell']) (by simp) (fun w3 hst3 => ?_) | refine Ops.store 1 [_] hstS rfl rfl rfl rfl sz3 rfl (by simp [Value.oneCell']) (by simp) (fun w3 hst3 => ?_) | refine Ops.store 2 [_] hstS rfl rfl rfl rfl sz3 rfl (by simp [Value.oneCell']) (by simp) (fun w3 hst3 => ?_) | refine Ops.store 3 [_] hstS rfl rfl rfl rfl sz3 rfl (by simp [Value.oneCell']) (by simp) (fun w3 hst3 => ?_)
  refine Ops.nil ?_
  refine Run.seq ?_
  refine Run.seq ?_
  refine Run.region ?_
  refine Ops.move rfl rfl ?_
  refine Ops.call rfl rfl Try.func30 (by kernel_rfl) (by kernel_rfl) rfl (iLen g1 v5 [1, 3, 3] 0 _ (St.hand (H1 := iNet g1 v5 [1, 3, 3] 0) hst3)) ?_
  rintro x w6 ⟨rfl, rfl⟩
  refine ⟨_, rfl, ?_⟩
  refine Ops.neq rfl rfl rfl ?_
  refine Ops.nil ?_
  refine Run.condF rfl (rfl) ?_
  refine Run.skip ?_
  refine Run.seq ?_
  refine Run.seq ?_
  refine Run.region ?_
  refine Ops.move rfl rfl ?_
  refine Ops.call rfl rfl Try.func29 (by kernel_rfl) (by kernel_rfl) rfl (iAll g1 _ (St.nil _ _)) ?_
  rintro x w8 ⟨c, rfl, hq⟩
  have hst8 := (St.back (H1 := []) hst3 hq).perm List.perm_append_comm
  refine ⟨_, rfl, ?_⟩ --ST hst8
  refine Ops.nil ?_
  refine Run.block ?_
  refine Run.range (fun s : Int => iNet g1 v5 [1, 3, 3] 0 ++ [blk gS [.int .i64 s] 3, blk c [.pointer (some ⟨g1, 0, none⟩)] 40]) (fun i s => ([0, 1, 13, 133] : List Int)[i]? = some s) (fun _ _ => False) rfl rfl Try.func37 (by kernel_rfl) (by kernel_rfl) (iIter g1 c v5 [1, 3, 3] (by simp)) (fun i => rfl) (by kernel_rfl) 0 rfl hst8 (fun i b W _ h => ⟨h.cell (i := 3) rfl rfl, h.cell (i := 0) rfl rfl, h.rd (i := 1) rfl⟩) ?_ ?_ ?_
  · skip
    rintro i s D l r W hi hF hst9
    have hn : ([0, 1, 13, 133] : List Int)[i + 1]? = some (10 * s + ([1, 3, 3] : List Int).getD i 0) ∧ (0 ≤ s ∧ s ≤ 13) ∧ 0 ≤ ([1, 3, 3] : List Int).getD i 0 ∧ ([1, 3, 3] : List Int).getD i 0 ≤ 3 := by
      have h3 : i = 0 ∨ i = 1 ∨ i = 2 := by simp at hi; omega
      rcases h3 with rfl | rfl | rfl <;> cases hF <;> decide
    obtain ⟨hn1, hn2, hn3, hn4⟩ := hn
    refine Run.sub (e' := [(24, .int .i64 (([1, 3, 3] : List Int).getD i 0)), (5, .pointer (some ⟨gS, 0, none⟩))]) (subB_spec ⟨rfl, rfl, trivial⟩) ?_ --ST hst9
    refine Run.region ?_
    refine Ops.assign rfl rfl ?_
    refine Ops.nil ?_
    refine Run.stop ⟨s, hst9, fun r' W2 hst10 => ?_⟩ --ST hst10
    refine Run.block ?_
    refine Run.region ?_
    refine Ops.load rfl Try.underlying3 rfl (by first | exact hst10.cell (i := 0) rfl rfl | exact hst10.cell (i := 1) rfl rfl | exact hst10.cell (i := 2) rfl rfl | exact hst10.cell (i := 3) rfl rfl | assumption) rfl ?_
    first | refine Ops.mulI rfl rfl rfl (by omega) (by omega) ?_ | refine Ops.mul rfl rfl rfl ?_
    refine Ops.move rfl rfl ?_
    first | refine Ops.addI rfl rfl rfl (by omega) (by omega) ?_ | refine Ops.add rfl rfl rfl ?_
    first | refine Ops.store 0 [_] hst10 rfl rfl rfl rfl sz3 rfl (by simp [Value.oneCell']) (by simp) (fun w4 hst4 => ?_) | refine Ops.store 1 [_] hst10 rfl rfl rfl rfl sz3 rfl (by simp [Value.oneCell']) (by simp) (fun w4 hst4 => ?_) | refine Ops.store 2 [_] hst10 rfl rfl rfl rfl sz3 rfl (by simp [Value.oneCell']) (by simp) (fun w4 hst4 => ?_) | refine Ops.store 3 [_] hst10 rfl rfl rfl rfl sz3 rfl (by simp [Value.oneCell']) (by simp) (fun w4 hst4 => ?_)
    refine Ops.nil ?_
    refine Run.endBlk ?_
    exact Run.endR (10 * s + ([1, 3, 3] : List Int).getD i 0) hn1 hst4
  · skip
    rintro s D W hF hst11
    obtain rfl : 133 = s := by simpa using hF --ST hst11
    refine Run.endBlk ?_
    refine Run.seq ?_
    refine Run.region ?_
    refine Ops.move rfl rfl ?_
    refine Ops.move rfl rfl ?_
    first | refine Ops.off rfl rfl ?_ | (refine Ops.on rfl ?_; refine Ops.move rfl rfl ?_)
    first | refine Ops.off rfl rfl ?_ | (refine Ops.on rfl ?_; refine Ops.eql rfl rfl rfl ?_)
    first | refine Ops.pickT rfl rfl rfl ?_ | refine Ops.pickF rfl rfl rfl ?_
    refine Ops.move rfl rfl ?_
    first | refine Ops.off rfl rfl ?_ | (refine Ops.on rfl ?_; refine Ops.move rfl rfl ?_)
    first | refine Ops.pickT rfl rfl rfl ?_ | refine Ops.pickF rfl rfl rfl ?_
    refine Ops.move rfl rfl ?_
    first | refine Ops.off rfl rfl ?_ | (refine Ops.on rfl ?_; refine Ops.load rfl Try.underlying3 rfl (by first | exact hst11.cell (i := 0) rfl rfl | exact hst11.cell (i := 1) rfl rfl | exact hst11.cell (i := 2) rfl rfl | exact hst11.cell (i := 3) rfl rfl | assumption) rfl ?_)
    first | refine Ops.off rfl rfl ?_ | (refine Ops.on rfl ?_; refine Ops.eql rfl rfl rfl ?_)
    first | refine Ops.pickT rfl rfl rfl ?_ | refine Ops.pickF rfl rfl rfl ?_
    refine Ops.move rfl rfl ?_
    first | refine Ops.off rfl rfl ?_ | (refine Ops.on rfl ?_; refine Ops.move rfl rfl ?_)
    refine Ops.on rfl ?_
    refine Ops.call rfl rfl Try.func30 (by kernel_rfl) (by kernel_rfl) rfl (iLen g1 v5 [1, 3, 3] 0 _ (St.hand (H1 := iNet g1 v5 [1, 3, 3] 0) hst11)) ?_
    rintro x w12 ⟨rfl, rfl⟩
    refine ⟨_, rfl, ?_⟩
    first | refine Ops.off rfl rfl ?_ | (refine Ops.on rfl ?_; refine Ops.eql rfl rfl rfl ?_)
    first | refine Ops.pickT rfl rfl rfl ?_ | refine Ops.pickF rfl rfl rfl ?_
    refine Ops.move rfl rfl ?_
    first | refine Ops.off rfl rfl ?_ | (refine Ops.on rfl ?_; refine Ops.move rfl rfl ?_)
    refine Ops.on rfl ?_
    refine Ops.call rfl rfl Try.func21 (by kernel_rfl) (by kernel_rfl) rfl (iDrop g1 v5 [1, 3, 3] 0 0 0 1 _ (by simp) (by decide) rfl (by omega) (St.hand (H1 := iNet g1 v5 [1, 3, 3] 0) hst11)) ?_
    rintro x w13 ⟨rfl, v6, hq⟩
    have hst13 := St.back (H1 := iNet g1 v5 [1, 3, 3] 0) hst11 hq
    refine ⟨_, rfl, ?_⟩ --ST hst13
    first | refine Ops.pickT rfl rfl rfl ?_ | refine Ops.pickF rfl rfl rfl ?_
    refine Ops.move rfl rfl ?_
    first | refine Ops.off rfl rfl ?_ | (refine Ops.on rfl ?_; refine Ops.move rfl rfl ?_)
    refine Ops.on rfl ?_
    refine Ops.call rfl rfl Try.func31 (by kernel_rfl) (by kernel_rfl) rfl (iLost g1 v6 [3, 3] 1 _ (St.hand (H1 := iNet g1 v6 [3, 3] 1) hst13)) ?_
    rintro x w14 ⟨rfl, rfl⟩
    refine ⟨_, rfl, ?_⟩
    first | refine Ops.off rfl rfl ?_ | (refine Ops.on rfl ?_; refine Ops.eql rfl rfl rfl ?_)
    first | refine Ops.pickT rfl rfl rfl ?_ | refine Ops.pickF rfl rfl rfl ?_
    refine Ops.assign rfl rfl ?_
    refine Ops.nil ?_
    refine Run.retM _ (.cons (hst13.get (i := 4) rfl) (.nil _)) (fun a ha => res1 rfl rfl ha) ?_
    exact ⟨rfl, (hst13.putOb 4 rfl (.deferred none)).sub (List.nil_sublist _)⟩
  · skip
    exact fun c b D W hF _ => hF.elim

end Go.Proofs.Ytiijlkebolfcpaa.Net4
