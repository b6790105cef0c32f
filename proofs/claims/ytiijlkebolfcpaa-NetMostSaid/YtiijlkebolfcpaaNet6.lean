/- Net: walks. -/
import Derived.Test.YtiijlkebolfcpaaNet5
namespace Go.Proofs.Ytiijlkebolfcpaa.Net6
open Go Go.RowKit Go.Proofs.Ytiijlkebolfcpaa.Sx Go.Proofs.Ytiijlkebolfcpaa.Net Go.Proofs.Ytiijlkebolfcpaa.Net2 Go.Proofs.Ytiijlkebolfcpaa.Net3 Go.Proofs.Ytiijlkebolfcpaa.Net4 Go.Proofs.Ytiijlkebolfcpaa.Net5
set_option linter.unusedVariables false
set_option linter.unusedSimpArgs false
theorem sz3 : (Try.prog.info? 3).map (·.size) = some 1 := by kernel_rfl
theorem sz9 : (Try.prog.info? 9).map (·.size) = some 1 := by kernel_rfl
theorem zr3 : (Try.prog.info? 3).map (·.zero) = some (some (.int .i64 0)) := by kernel_rfl
theorem zr9 : (Try.prog.info? 9).map (·.zero) = some (some (.string ⟨#[]⟩)) := by kernel_rfl
theorem zr43 : (Try.prog.info? 43).map (·.zero) = some (some (.agg #[.slice none 0 0, .int .i64 0])) := by kernel_rfl
theorem zr58 : (Try.prog.info? 58).map (·.zero) = some (some (.agg #[.slice none 0 0, .int .i64 0])) := by kernel_rfl
theorem pl43 {fs : Array Field} (h : Try.prog.underlying 43 = some (.struct fs)) (w : World) : (fs.mapM fun f => do pure (f.offset, ← sizeOf f.type) : Sem (Array (Nat × Nat))).run Try.prog w = .ok #[(0, 1), (1, 1)] w := by
  rw [Try.underlying43] at h
  cases h
  kernel_rfl
theorem pl58 {fs : Array Field} (h : Try.prog.underlying 58 = some (.struct fs)) (w : World) : (fs.mapM fun f => do pure (f.offset, ← sizeOf f.type) : Sem (Array (Nat × Nat))).run Try.prog w = .ok #[(0, 1), (1, 1)] w := by
  rw [Try.underlying58] at h
  cases h
  kernel_rfl

def idx (n : Nat) : List Int := (List.range n).map fun (j : Nat) => (j : Int)
theorem idx_len (n : Nat) : (idx n).length = n := by simp [idx]
theorem idx_succ (n : Nat) : idx (n + 1) = idx n ++ [(n : Int)] := by simp [idx, List.range_succ]
theorem idx_at (n j : Nat) (h : j < n) : (idx n)[j]? = some (j : Int) := by simp [idx, h]

set_option maxRecDepth 100000 in
set_option maxHeartbeats 2000000 in
theorem genericLaw (s : Value) (b1 : List ByteArray) (k : Int) (w : World) (hr : Rd w 1 s b1.length (b1.map Value.string)) (hk : -32768 ≤ k ∧ k < 32768) :
    Calls Try.prog 12 #[s, .int .i16 k] w fun e w' => e = .returned (.bool true) ∧ St w (fps []) [] w' := by
  have hst : St w (fps []) [] w := St.nil _ _
  obtain ⟨A, c, rfl, hl, -⟩ := hr.shape
  obtain ⟨ys, hys⟩ : ∃ ys, ys = b1.take (min b1.length 60) := ⟨_, rfl⟩
  have hyl : ys.length = min b1.length 60 := by rw [hys, List.length_take]; omega
  obtain ⟨s', hs'⟩ : ∃ s', s' = Value.slice (if c = 0 then A else A.map (·.add (0 * 1))) (min b1.length 60) c := ⟨_, rfl⟩
  have hR : Rd w 1 s' ys.length (ys.map Value.string) := by
    rw [hyl, hs', hys, List.map_take]
    exact hr.pre _ (by omega) hl
  have hv : Value.slice (if c = (0 : Int).toNat then A else A.map (·.add ((0 : Int).toNat * 1))) ((min (b1.length : Int) 60).toNat - (0 : Int).toNat) (c - (0 : Int).toNat) = s' := by
    rw [hs', show (min (b1.length : Int) 60).toNat - (0 : Int).toNat = min b1.length 60 from by omega]
    rfl
  clear hs' hys
  have hy60 : ys.length ≤ 60 := by omega
  obtain ⟨A1, c1, rfl, hl1, hp1⟩ := hR.shape
  refine calls_of_run Try.func12 rfl rfl ?_
  refine Run.seq ?_
  refine Run.region ?_
  refine Ops.assign rfl rfl ?_
  refine Ops.nil ?_
  refine Run.seq ?_
  refine Run.seq ?_
  refine Run.region ?_
  refine Ops.call rfl rfl Try.func17 (by kernel_rfl) (by kernel_rfl) rfl (awake_calls _) ?_
  rintro x w2 ⟨rfl, hq⟩
  have hst2 := hst.after0 hq
  refine ⟨_, rfl, ?_⟩ --ST hst2
  refine Ops.not rfl rfl ?_
  refine Ops.nil ?_
  refine Run.condF rfl (rfl) ?_
  refine Run.skip ?_
  refine Run.seq ?_
  refine Run.region ?_
  refine Ops.move rfl rfl ?_
  refine Ops.move rfl rfl ?_
  refine Ops.len rfl rfl rfl Try.underlying56 rfl ?_
  refine Ops.min2 rfl rfl rfl rfl ?_
  refine Ops.cut (i := 0) (j := min (b1.length : Int) 60) rfl Try.underlying56 sz9 rfl rfl (by omega) (by omega) (by omega) rfl ?_
  refine Ops.re 19 rfl hv ?_
  refine Ops.assign rfl rfl ?_
  refine Ops.nil ?_
  refine Run.seq ?_
  refine Run.region ?_
  refine Ops.build [.slice none 0 0, .int .i64 0] rfl Try.underlying58 zr58 (pl58 Try.underlying58) (by kernel_rfl) rfl ?_
  refine Ops.box _ hst2 rfl rfl rfl (fun g1 wbg1 hstbg1 hgbg1 => ?_) --ST hstbg1
  refine Ops.build [.slice none 0 0, .int .i64 0] rfl Try.underlying43 zr43 (pl43 Try.underlying43) (by kernel_rfl) rfl ?_
  refine Ops.box _ hstbg1 rfl rfl rfl (fun g2 wbg2 hstbg2 hgbg2 => ?_) --ST hstbg2
  refine Ops.assign rfl rfl ?_
  refine Ops.assign rfl rfl ?_
  refine Ops.nil ?_
  refine Run.seq ?_
  refine Run.seq ?_
  have hstN := (hstbg2.push (Fr.refl _ _) (own_nil 9 1 _) (fun k hk => by cases hk)).push (Fr.refl _ _) (own_nil 3 1 _) (fun k hk => by cases hk)
  have hstM : St w (fps []) (sNet g1 (.slice none 0 0) [] 0 ++ iNet g2 (.slice none 0 0) [] 0) _ := hstN.perm (by exact (List.Perm.cons _ (List.Perm.swap _ _ _))) --ST hstM
  refine Run.region ?_
  refine Ops.move rfl rfl ?_
  refine Ops.len rfl rfl rfl Try.underlying56 rfl ?_
  refine Ops.move rfl rfl ?_
  refine Ops.nil ?_
  refine Run.block ?_
  refine Run.sub (e' := [(0, .slice A1 ys.length c1), (1, .int .i16 k), (5, .pointer (some ⟨g1, 0, none⟩)), (6, .pointer (some ⟨g2, 0, none⟩)), (24, .slice A1 ys.length c1), (25, .int .i64 (ys.length : Int)), (26, .int .i64 0)]) (subB_spec ⟨rfl, rfl, rfl, rfl, rfl, rfl, rfl, trivial⟩) ?_
  refine Run.loop (fun fuel e' w' => ∃ (i : Nat) (u u2 : Value), e' = [(0, .slice A1 ys.length c1), (1, .int .i16 k), (5, .pointer (some ⟨g1, 0, none⟩)), (6, .pointer (some ⟨g2, 0, none⟩)), (24, .slice A1 ys.length c1), (25, .int .i64 (ys.length : Int)), (26, .int .i64 (i : Int))] ∧ i ≤ ys.length ∧ fuel = ys.length - i ∧ St w (fps []) (sNet g1 u (ys.take i) 0 ++ iNet g2 u2 (idx i) 0) w') ys.length ⟨0, _, _, rfl, by omega, by omega, hstM⟩ ?_
  rintro fuel e' w4 ⟨i, u, u2, rfl, hi, rfl, hst4⟩ --ST hst4
  refine Run.seq ?_
  refine Run.region ?_
  refine Ops.lss rfl rfl rfl ?_
  refine Ops.nil ?_
  refine Run.seq ?_
  refine Run.cond rfl (fun hc27 => ?_) (fun hc27 => ?_)
  · skip
    have hlt : i < ys.length := by have := of_decide_eq_true hc27; omega
    obtain ⟨g, o, rfl⟩ := hp1 (by omega)
    obtain ⟨m, hmi⟩ : ∃ m, ys[i]? = some m := ⟨_, List.getElem?_eq_getElem hlt⟩
    have htl : (ys.take i).length = i := by rw [List.length_take]; omega
    have hil := idx_len i
    refine Run.skip ?_
    refine Run.seq ?_
    refine Run.block ?_
    refine Run.seq ?_
    refine Run.region ?_
    refine Ops.move rfl rfl ?_
    refine Ops.indexAddr (j := i) rfl rfl Try.underlying56 sz9 rfl (by omega) (by omega) (by first | rfl | (simp; done) | (simp; omega) | omega) rfl ?_
    refine Ops.load rfl Try.underlying9 rfl ((hR.later hst4 (fun k _ => fps_nil k)).cell (j := i) (by rw [List.getElem?_map, hmi]; rfl)) rfl ?_
    refine Ops.assign rfl rfl ?_
    refine Ops.assign rfl rfl ?_
    refine Ops.nil ?_
    refine Run.seq ?_
    refine Run.region ?_
    refine Ops.move rfl rfl ?_
    refine Ops.move rfl rfl ?_
    refine Ops.buildSlice [.string m] hst4 rfl Try.underlying56 sz9 zr9 rfl rfl (by kernel_rfl) rfl (fun g3 w3 hst3 hg3 => ?_)
    refine Ops.call rfl rfl Try.func24 (by kernel_rfl) (by kernel_rfl) rfl (sSend g1 u _ (ys.take i) [m] 0 _ (by omega) (by simp) (by omega) (Rd_of_blk (m := 1) hst3 (i := 4) rfl rfl (by simp [Value.oneCell'])) (St.sepI (H1 := sNet g1 u (ys.take i) 0) hst3 2 rfl) (St.hand (H1 := sNet g1 u (ys.take i) 0) hst3)) ?_
    rintro x w5 ⟨rfl, v5, hq⟩
    rw [snds_few [m] _ (by simp; omega)] at hq
    have hst5 : St w (fps []) (iNet g2 u2 (idx i) 0 ++ sNet g1 v5 (ys.take (i + 1)) 0) w5 := by
      have h := St.back (H1 := sNet g1 u (ys.take i) 0) hst3 hq
      rw [List.take_add_one, hmi]
      exact (h.sub (List.sublist_append_left (sNet g1 v5 (ys.take i ++ [m]) 0 ++ iNet g2 u2 (idx i) 0) _)).perm List.perm_append_comm
    refine ⟨_, rfl, ?_⟩ --ST hst5
    refine Ops.nil ?_
    refine Run.region ?_
    refine Ops.move rfl rfl ?_
    refine Ops.move rfl rfl ?_
    refine Ops.buildSlice [.int .i64 (i : Int)] hst5 rfl Try.underlying41 sz3 zr3 rfl rfl (by kernel_rfl) rfl (fun g4 w4 hst4 hg4 => ?_)
    refine Ops.call rfl rfl Try.func18 (by kernel_rfl) (by kernel_rfl) rfl (iSend g2 u2 _ (idx i) [(i : Int)] 0 _ (by omega) (by simp) (by omega) (Rd_of_blk (m := 1) hst4 (i := 4) rfl rfl (by simp [Value.oneCell'])) (St.sepI (H1 := iNet g2 u2 (idx i) 0) hst4 2 rfl) (St.hand (H1 := iNet g2 u2 (idx i) 0) hst4)) ?_
    rintro x w6 ⟨rfl, v6, hq⟩
    rw [snds_few [(i : Int)] _ (by simp; omega)] at hq
    have hst6 : St w (fps []) (sNet g1 v5 (ys.take (i + 1)) 0 ++ iNet g2 v6 (idx (i + 1)) 0) w6 := by
      have h := St.back (H1 := iNet g2 u2 (idx i) 0) hst4 hq
      rw [idx_succ]
      exact (h.sub (List.sublist_append_left (iNet g2 v6 (idx i ++ [(i : Int)]) 0 ++ sNet g1 v5 (ys.take (i + 1)) 0) _)).perm List.perm_append_comm
    refine ⟨_, rfl, ?_⟩ --ST hst6
    refine Ops.nil ?_
    refine Run.endBlk ?_
    refine Run.region ?_
    first | refine Ops.addI rfl rfl rfl (by omega) (by omega) ?_ | refine Ops.add rfl rfl rfl ?_
    refine Ops.move rfl rfl ?_
    refine Ops.nil ?_
    refine Run.sub (e' := [(0, .slice (some ⟨g, o, none⟩) ys.length c1), (1, .int .i16 k), (5, .pointer (some ⟨g1, 0, none⟩)), (6, .pointer (some ⟨g2, 0, none⟩)), (24, .slice (some ⟨g, o, none⟩) ys.length c1), (25, .int .i64 (ys.length : Int)), (26, .int .i64 ((i + 1 : Nat) : Int))]) (subB_spec ⟨rfl, rfl, rfl, rfl, rfl, rfl, rfl, trivial⟩) (Run.stop ⟨ys.length - (i + 1), by omega, i + 1, v5, v6, rfl, by omega, rfl, hst6⟩)
  · skip
    obtain rfl : i = ys.length := by have := of_decide_eq_false hc27; omega
    rw [List.take_length] at hst4
    refine Run.exit _ rfl ?_
    refine Run.seq ?_
    rcases Nat.eq_zero_or_pos ys.length with hz | hz
    · skip
      obtain rfl : ys = [] := List.eq_nil_of_length_eq_zero hz
      refine Run.region ?_
      refine Ops.move rfl rfl ?_
      refine Ops.move rfl rfl ?_
      first | refine Ops.convQ rfl Try.underlying44 Try.underlying3 (wrap_i64_in (by omega) (by omega)) rfl ?_ | refine Ops.conv rfl Try.underlying44 Try.underlying3 rfl ?_
      refine Ops.call rfl rfl Try.func25 (by kernel_rfl) (by kernel_rfl) rfl (sTake0 g1 u 0 k _ (St.hand (H1 := sNet g1 u ([]) 0) hst4)) ?_
      rintro x w7 ⟨rfl, rfl⟩
      obtain ⟨v7, hv7⟩ : ∃ v7, v7 = u := ⟨_, rfl⟩
      rw [← hv7] at hst4
      refine ⟨_, rfl, ?_⟩
      refine Ops.move rfl rfl ?_
      refine Ops.extract rfl rfl rfl ?_
      refine Ops.extract rfl rfl rfl ?_
      refine Ops.assign rfl rfl ?_
      refine Ops.assign rfl rfl ?_
      refine Ops.nil ?_
      refine Run.seq ?_
      refine Run.region ?_
      refine Ops.move rfl rfl ?_
      refine Ops.move rfl rfl ?_
      first | refine Ops.convQ rfl Try.underlying44 Try.underlying3 (wrap_i64_in (by omega) (by omega)) rfl ?_ | refine Ops.conv rfl Try.underlying44 Try.underlying3 rfl ?_
      refine Ops.call rfl rfl Try.func19 (by kernel_rfl) (by kernel_rfl) rfl (iTake0 g2 u2 0 k _ (St.hand (H1 := iNet g2 u2 ([]) 0) (hst4.perm List.perm_append_comm))) ?_
      rintro x w8 ⟨rfl, rfl⟩
      obtain ⟨v8, hv8⟩ : ∃ v8, v8 = u2 := ⟨_, rfl⟩
      rw [← hv8] at hst4
      refine ⟨_, rfl, ?_⟩
      refine Ops.move rfl rfl ?_
      refine Ops.extract rfl rfl rfl ?_
      refine Ops.extract rfl rfl rfl ?_
      refine Ops.assign rfl rfl ?_
      refine Ops.assign rfl rfl ?_
      refine Ops.nil ?_
      refine Run.seq ?_
      refine Run.seq ?_
      refine Run.region ?_
      refine Ops.move rfl rfl ?_
      refine Ops.move rfl rfl ?_
      refine Ops.neqB rfl rfl rfl Try.underlying4 ?_
      refine Ops.move rfl rfl ?_
      first | refine Ops.off rfl rfl ?_ | (refine Ops.on rfl ?_; refine Ops.move rfl rfl ?_)
      first | refine Ops.off rfl rfl ?_ | (refine Ops.on rfl ?_; refine Ops.move rfl rfl ?_)
      first | refine Ops.off rfl rfl ?_ | (refine Ops.on rfl ?_; refine Ops.move rfl rfl ?_)
      first | refine Ops.off rfl rfl ?_ | (refine Ops.on rfl ?_; refine Ops.move rfl rfl ?_)
      first | refine Ops.off rfl rfl ?_ | (refine Ops.on rfl ?_; refine Ops.indexAddr rfl rfl Try.underlying56 sz9 rfl (by omega) (by omega) rfl rfl ?_)
      first | refine Ops.off rfl rfl ?_ | (refine Ops.on rfl ?_; refine Ops.load rfl Try.underlying9 rfl (by first | exact hst4.cell (i := 0) rfl rfl | exact hst4.cell (i := 1) rfl rfl | exact hst4.cell (i := 2) rfl rfl | exact hst4.cell (i := 3) rfl rfl | exact hst4.cell (i := 4) rfl rfl | assumption) rfl ?_)
      first | refine Ops.off rfl rfl ?_ | (refine Ops.on rfl ?_; refine Ops.move rfl rfl ?_)
      first | refine Ops.off rfl rfl ?_ | (refine Ops.on rfl ?_; refine Ops.neqS rfl rfl rfl ?_)
      first | refine Ops.off rfl rfl ?_ | (refine Ops.on rfl ?_; first | refine Ops.pickT rfl rfl rfl ?_ | refine Ops.pickF rfl rfl rfl ?_)
      first | refine Ops.pickT rfl rfl rfl ?_ | refine Ops.pickF rfl rfl rfl ?_
      refine Ops.move rfl rfl ?_
      first | refine Ops.off rfl rfl ?_ | (refine Ops.on rfl ?_; refine Ops.move rfl rfl ?_)
      first | refine Ops.off rfl rfl ?_ | (refine Ops.on rfl ?_; refine Ops.not rfl rfl ?_)
      first | refine Ops.off rfl rfl ?_ | (refine Ops.on rfl ?_; refine Ops.move rfl rfl ?_)
      first | refine Ops.off rfl rfl ?_ | (refine Ops.on rfl ?_; refine Ops.move rfl rfl ?_)
      first | refine Ops.off rfl rfl ?_ | (refine Ops.on rfl ?_; refine Ops.neqS rfl rfl rfl ?_)
      refine Ops.re 73 rfl (congrArg Value.bool (show _ = false from by simp)) ?_
      first | refine Ops.off rfl rfl ?_ | (refine Ops.on rfl ?_; first | refine Ops.pickT rfl rfl rfl ?_ | refine Ops.pickF rfl rfl rfl ?_)
      first | refine Ops.pickT rfl rfl rfl ?_ | refine Ops.pickF rfl rfl rfl ?_
      refine Ops.nil ?_
      refine Run.condF rfl (rfl) ?_
      refine Run.skip ?_
      refine Run.seq ?_
      refine Run.region ?_
      refine Ops.move rfl rfl ?_
      refine Ops.call rfl rfl Try.func32 (by kernel_rfl) (by kernel_rfl) rfl (sLen g1 v7 ([]) 0 _ (St.hand (H1 := sNet g1 v7 ([]) 0) hst4)) ?_
      rintro x w10 ⟨rfl, rfl⟩
      refine ⟨_, rfl, ?_⟩
      refine Ops.move rfl rfl ?_
      refine Ops.call rfl rfl Try.func30 (by kernel_rfl) (by kernel_rfl) rfl (iLen g2 v8 ([]) 0 _ (St.hand (H1 := iNet g2 v8 ([]) 0) (hst4.perm List.perm_append_comm))) ?_
      rintro x w11 ⟨rfl, rfl⟩
      refine ⟨_, rfl, ?_⟩
      refine Ops.eql rfl rfl rfl ?_
      refine Ops.re 80 rfl (congrArg Value.bool (show _ = true from by rfl)) ?_
      refine Ops.move rfl rfl ?_
      first | refine Ops.off rfl rfl ?_ | (refine Ops.on rfl ?_; refine Ops.move rfl rfl ?_)
      refine Ops.on rfl ?_
      refine Ops.call rfl rfl Try.func32 (by kernel_rfl) (by kernel_rfl) rfl (sLen g1 v7 ([]) 0 _ (St.hand (H1 := sNet g1 v7 ([]) 0) hst4)) ?_
      rintro x w12 ⟨rfl, rfl⟩
      refine ⟨_, rfl, ?_⟩
      first | refine Ops.off rfl rfl ?_ | (refine Ops.on rfl ?_; refine Ops.move rfl rfl ?_)
      first | refine Ops.off rfl rfl ?_ | (refine Ops.on rfl ?_; refine Ops.len rfl rfl rfl Try.underlying56 rfl ?_)
      first | refine Ops.off rfl rfl ?_ | (refine Ops.on rfl ?_; first | refine Ops.subI rfl rfl rfl (by omega) (by omega) ?_ | refine Ops.sub rfl rfl rfl ?_)
      first | refine Ops.off rfl rfl ?_ | (refine Ops.on rfl ?_; refine Ops.max2 rfl rfl rfl rfl ?_)
      first | refine Ops.off rfl rfl ?_ | (refine Ops.on rfl ?_; refine Ops.eql rfl rfl rfl ?_)
      refine Ops.re 88 rfl (congrArg Value.bool (show _ = true from by rfl)) ?_
      first | refine Ops.pickT rfl rfl rfl ?_ | refine Ops.pickF rfl rfl rfl ?_
      refine Ops.assign rfl rfl ?_
      refine Ops.nil ?_
      refine Run.ret _ rfl (fun a ha => res1 rfl rfl ha) ?_
      exact ⟨rfl, hst4.sub (List.nil_sublist _)⟩
    · skip
      obtain ⟨j, hj, hjl⟩ := emod_nat k ys.length hz
      obtain ⟨x0, hx0⟩ : ∃ x0, ys[j]? = some x0 := ⟨_, List.getElem?_eq_getElem hjl⟩
      obtain ⟨g, o, rfl⟩ := hp1 (by omega)
      refine Run.region ?_
      refine Ops.move rfl rfl ?_
      refine Ops.move rfl rfl ?_
      first | refine Ops.convQ rfl Try.underlying44 Try.underlying3 (wrap_i64_in (by omega) (by omega)) rfl ?_ | refine Ops.conv rfl Try.underlying44 Try.underlying3 rfl ?_
      refine Ops.call rfl rfl Try.func25 (by kernel_rfl) (by kernel_rfl) rfl (sTake g1 u ys 0 k j x0 _ (by omega) hj hx0 (St.hand (H1 := sNet g1 u (ys) 0) hst4)) ?_
      rintro x w7 ⟨rfl, v7, hq⟩
      have hst7 := (St.back (H1 := sNet g1 u (ys) 0) hst4 hq).perm List.perm_append_comm
      refine ⟨_, rfl, ?_⟩ --ST hst7
      refine Ops.move rfl rfl ?_
      refine Ops.extract rfl rfl rfl ?_
      refine Ops.extract rfl rfl rfl ?_
      refine Ops.assign rfl rfl ?_
      refine Ops.assign rfl rfl ?_
      refine Ops.nil ?_
      refine Run.seq ?_
      refine Run.region ?_
      refine Ops.move rfl rfl ?_
      refine Ops.move rfl rfl ?_
      first | refine Ops.convQ rfl Try.underlying44 Try.underlying3 (wrap_i64_in (by omega) (by omega)) rfl ?_ | refine Ops.conv rfl Try.underlying44 Try.underlying3 rfl ?_
      refine Ops.call rfl rfl Try.func19 (by kernel_rfl) (by kernel_rfl) rfl (iTake g2 u2 (idx ys.length) 0 k j j _ (by rw [idx_len]; omega) (by rw [idx_len]; exact hj) (idx_at _ _ hjl) (St.hand (H1 := iNet g2 u2 (idx ys.length) 0) hst7)) ?_
      rintro x w8 ⟨rfl, v8, hq⟩
      have hst8 := (St.back (H1 := iNet g2 u2 (idx ys.length) 0) hst7 hq).perm List.perm_append_comm
      refine ⟨_, rfl, ?_⟩ --ST hst8
      refine Ops.move rfl rfl ?_
      refine Ops.extract rfl rfl rfl ?_
      refine Ops.extract rfl rfl rfl ?_
      refine Ops.assign rfl rfl ?_
      refine Ops.assign rfl rfl ?_
      refine Ops.nil ?_
      refine Run.seq ?_
      refine Run.seq ?_
      refine Run.region ?_
      refine Ops.move rfl rfl ?_
      refine Ops.move rfl rfl ?_
      refine Ops.neqB rfl rfl rfl Try.underlying4 ?_
      refine Ops.move rfl rfl ?_
      first | refine Ops.off rfl rfl ?_ | (refine Ops.on rfl ?_; refine Ops.move rfl rfl ?_)
      first | refine Ops.off rfl rfl ?_ | (refine Ops.on rfl ?_; refine Ops.move rfl rfl ?_)
      first | refine Ops.off rfl rfl ?_ | (refine Ops.on rfl ?_; refine Ops.move rfl rfl ?_)
      first | refine Ops.off rfl rfl ?_ | (refine Ops.on rfl ?_; refine Ops.move rfl rfl ?_)
      first | refine Ops.off rfl rfl ?_ | (refine Ops.on rfl ?_; refine Ops.indexAddr (j := j) rfl rfl Try.underlying56 sz9 rfl (by omega) (by omega) (by first | rfl | (simp; done) | (simp; omega) | omega) rfl ?_)
      refine Ops.on rfl ?_
      refine Ops.load rfl Try.underlying9 rfl ((hR.later hst8 (fun k _ => fps_nil k)).cell (j := j) (by rw [List.getElem?_map, hx0]; rfl)) rfl ?_
      first | refine Ops.off rfl rfl ?_ | (refine Ops.on rfl ?_; refine Ops.move rfl rfl ?_)
      first | refine Ops.off rfl rfl ?_ | (refine Ops.on rfl ?_; refine Ops.neqS rfl rfl rfl ?_)
      refine Ops.re 65 rfl (congrArg Value.bool (show _ = false from by simp)) ?_
      first | refine Ops.off rfl rfl ?_ | (refine Ops.on rfl ?_; first | refine Ops.pickT rfl rfl rfl ?_ | refine Ops.pickF rfl rfl rfl ?_)
      first | refine Ops.pickT rfl rfl rfl ?_ | refine Ops.pickF rfl rfl rfl ?_
      refine Ops.move rfl rfl ?_
      first | refine Ops.off rfl rfl ?_ | (refine Ops.on rfl ?_; refine Ops.move rfl rfl ?_)
      first | refine Ops.off rfl rfl ?_ | (refine Ops.on rfl ?_; refine Ops.not rfl rfl ?_)
      first | refine Ops.off rfl rfl ?_ | (refine Ops.on rfl ?_; refine Ops.move rfl rfl ?_)
      first | refine Ops.off rfl rfl ?_ | (refine Ops.on rfl ?_; refine Ops.move rfl rfl ?_)
      first | refine Ops.off rfl rfl ?_ | (refine Ops.on rfl ?_; refine Ops.neqS rfl rfl rfl ?_)
      first | refine Ops.off rfl rfl ?_ | (refine Ops.on rfl ?_; first | refine Ops.pickT rfl rfl rfl ?_ | refine Ops.pickF rfl rfl rfl ?_)
      first | refine Ops.pickT rfl rfl rfl ?_ | refine Ops.pickF rfl rfl rfl ?_
      refine Ops.nil ?_
      refine Run.condF rfl (rfl) ?_
      refine Run.skip ?_
      refine Run.seq ?_
      refine Run.region ?_
      refine Ops.move rfl rfl ?_
      refine Ops.call rfl rfl Try.func32 (by kernel_rfl) (by kernel_rfl) rfl (sLen g1 v7 (ys.eraseIdx j) 0 _ (St.hand (H1 := sNet g1 v7 (ys.eraseIdx j) 0) hst8)) ?_
      rintro x w10 ⟨rfl, rfl⟩
      refine ⟨_, rfl, ?_⟩
      refine Ops.move rfl rfl ?_
      refine Ops.call rfl rfl Try.func30 (by kernel_rfl) (by kernel_rfl) rfl (iLen g2 v8 ((idx ys.length).eraseIdx j) 0 _ (St.hand (H1 := iNet g2 v8 ((idx ys.length).eraseIdx j) 0) (hst8.perm List.perm_append_comm))) ?_
      rintro x w11 ⟨rfl, rfl⟩
      refine ⟨_, rfl, ?_⟩
      refine Ops.eql rfl rfl rfl ?_
      refine Ops.re 80 rfl (congrArg Value.bool (show _ = true from by rw [List.length_eraseIdx_of_lt hjl, List.length_eraseIdx_of_lt (by rw [idx_len]; exact hjl), idx_len]; simp)) ?_
      refine Ops.move rfl rfl ?_
      first | refine Ops.off rfl rfl ?_ | (refine Ops.on rfl ?_; refine Ops.move rfl rfl ?_)
      refine Ops.on rfl ?_
      refine Ops.call rfl rfl Try.func32 (by kernel_rfl) (by kernel_rfl) rfl (sLen g1 v7 (ys.eraseIdx j) 0 _ (St.hand (H1 := sNet g1 v7 (ys.eraseIdx j) 0) hst8)) ?_
      rintro x w12 ⟨rfl, rfl⟩
      refine ⟨_, rfl, ?_⟩
      first | refine Ops.off rfl rfl ?_ | (refine Ops.on rfl ?_; refine Ops.move rfl rfl ?_)
      first | refine Ops.off rfl rfl ?_ | (refine Ops.on rfl ?_; refine Ops.len rfl rfl rfl Try.underlying56 rfl ?_)
      first | refine Ops.off rfl rfl ?_ | (refine Ops.on rfl ?_; first | refine Ops.subI rfl rfl rfl (by omega) (by omega) ?_ | refine Ops.sub rfl rfl rfl ?_)
      first | refine Ops.off rfl rfl ?_ | (refine Ops.on rfl ?_; refine Ops.max2 rfl rfl rfl rfl ?_)
      first | refine Ops.off rfl rfl ?_ | (refine Ops.on rfl ?_; refine Ops.eql rfl rfl rfl ?_)
      refine Ops.re 88 rfl (congrArg Value.bool (show _ = true from by rw [List.length_eraseIdx_of_lt hjl]; simp; omega)) ?_
      first | refine Ops.pickT rfl rfl rfl ?_ | refine Ops.pickF rfl rfl rfl ?_
      refine Ops.assign rfl rfl ?_
      refine Ops.nil ?_
      refine Run.ret _ rfl (fun a ha => res1 rfl rfl ha) ?_
      exact ⟨rfl, hst8.sub (List.nil_sublist _)⟩

end Go.Proofs.Ytiijlkebolfcpaa.Net6
