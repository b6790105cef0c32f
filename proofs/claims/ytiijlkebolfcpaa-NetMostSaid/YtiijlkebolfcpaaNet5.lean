/- Net: walks. -/
import Derived.Test.YtiijlkebolfcpaaNet4
namespace Go.Proofs.Ytiijlkebolfcpaa.Net5
open Go Go.RowKit Go.Proofs.Ytiijlkebolfcpaa.Sx Go.Proofs.Ytiijlkebolfcpaa.Net Go.Proofs.Ytiijlkebolfcpaa.Net2 Go.Proofs.Ytiijlkebolfcpaa.Net3 Go.Proofs.Ytiijlkebolfcpaa.Net4
set_option linter.unusedVariables false
set_option linter.unusedSimpArgs false
theorem sz3 : (Try.prog.info? 3).map (·.size) = some 1 := by kernel_rfl
theorem sz44 : (Try.prog.info? 44).map (·.size) = some 1 := by kernel_rfl
theorem zr3 : (Try.prog.info? 3).map (·.zero) = some (some (.int .i64 0)) := by kernel_rfl
theorem zr43 : (Try.prog.info? 43).map (·.zero) = some (some (.agg #[.slice none 0 0, .int .i64 0])) := by kernel_rfl
theorem pl43 {fs : Array Field} (h : Try.prog.underlying 43 = some (.struct fs)) (w : World) : (fs.mapM fun f => do pure (f.offset, ← sizeOf f.type) : Sem (Array (Nat × Nat))).run Try.prog w = .ok #[(0, 1), (1, 1)] w := by
  rw [Try.underlying43] at h
  cases h
  kernel_rfl
set_option maxRecDepth 100000 in
set_option maxHeartbeats 2000000 in
theorem lawPlace (k : Int) (L : Nat) (w : World) (h : 0 < L) (h2 : L ≤ 1000) : Calls Try.prog 20 #[.int .i64 k, .int .i64 (L : Int)] w fun e w' => e = .returned (.int .i64 (k % L)) ∧ w' = w := by
  have hb1 := tmod_bd k L h
  refine calls_of_run Try.func20 rfl rfl ?_
  refine Run.seq ?_
  refine Run.region ?_
  refine Ops.assign rfl rfl ?_
  refine Ops.nil ?_
  refine Run.seq ?_
  refine Run.region ?_
  refine Ops.move rfl rfl ?_
  refine Ops.move rfl rfl ?_
  first | refine Ops.remI rfl rfl rfl (by omega) (by omega) ?_ | refine Ops.rem rfl rfl rfl (by omega) ?_
  refine Ops.move rfl rfl ?_
  first | refine Ops.addI rfl rfl rfl (by omega) (by omega) ?_ | refine Ops.add rfl rfl rfl ?_
  refine Ops.move rfl rfl ?_
  first | refine Ops.remI rfl rfl rfl (by omega) (by omega) ?_ | refine Ops.rem rfl rfl rfl (by omega) ?_
  refine Ops.assign rfl rfl ?_
  refine Ops.nil ?_
  refine Run.ret _ rfl (fun a ha => res1 rfl rfl ha) ?_
  rw [emod_i k L h]
  exact ⟨rfl, rfl⟩


theorem snds_few {α : Type} : ∀ (ms : List α) (p : List α × Int), p.1.length + ms.length ≤ 64 → snds p ms = (p.1 ++ ms, p.2)
  | [], p, _ => by simp [snds]
  | m :: r, p, h => by
    simp only [List.length_cons] at h
    have h1 : snd1 p m = (p.1 ++ [m], p.2) := by
      unfold snd1
      rw [if_neg (by omega)]
    have h3 : snds p (m :: r) = snds (snd1 p m) r := rfl
    rw [h3, h1, snds_few r _ (by simp; omega)]
    simp
theorem erase_last {α : Type} (zs : List α) (x : α) : (zs ++ [x]).eraseIdx zs.length = zs := by
  rw [List.eraseIdx_append_of_length_le (Nat.le_refl _)]
  simp
theorem emod_nat (k : Int) (L : Nat) (h : 0 < L) : ∃ i : Nat, k % (L : Int) = i ∧ i < L := by
  have h1 := Int.emod_nonneg k (by omega : (L : Int) ≠ 0)
  have h2 := Int.emod_lt_of_pos k (by omega : (0 : Int) < L)
  exact ⟨(k % (L : Int)).toNat, by omega, by omega⟩

set_option maxRecDepth 100000 in
set_option maxHeartbeats 2000000 in
theorem twiceLaw (s : Value) (b1 : List Int) (k : Int) (w : World) (hb : ∀ x ∈ b1, -32768 ≤ x ∧ x < 32768) (hr : Rd w 1 s b1.length (b1.map (Value.int .i16))) (hk : -32768 ≤ k ∧ k < 32768) :
    Calls Try.prog 11 #[s, .int .i16 k] w fun e w' => e = .returned (.bool true) ∧ St w (fps []) [] w' := by
  have hst : St w (fps []) [] w := St.nil _ _
  obtain ⟨A, c, rfl, hl, -⟩ := hr.shape
  obtain ⟨ys, hys⟩ : ∃ ys, ys = b1.take (min b1.length 62) := ⟨_, rfl⟩
  have hyl : ys.length = min b1.length 62 := by rw [hys, List.length_take]; omega
  have hyb : ∀ x ∈ ys, -32768 ≤ x ∧ x < 32768 := fun x hx => hb x (List.mem_of_mem_take (hys ▸ hx))
  obtain ⟨s', hs'⟩ : ∃ s', s' = Value.slice (if c = 0 then A else A.map (·.add (0 * 1))) (min b1.length 62) c := ⟨_, rfl⟩
  have hR : Rd w 1 s' ys.length (ys.map (Value.int .i16)) := by
    rw [hyl, hs', hys, List.map_take]
    exact hr.pre _ (by omega) hl
  have hv : Value.slice (if c = (0 : Int).toNat then A else A.map (·.add ((0 : Int).toNat * 1))) ((min (b1.length : Int) 62).toNat - (0 : Int).toNat) (c - (0 : Int).toNat) = s' := by
    rw [hs', show (min (b1.length : Int) 62).toNat - (0 : Int).toNat = min b1.length 62 from by omega]
    rfl
  refine calls_of_run Try.func11 rfl rfl ?_
  refine Run.seq ?_
  refine Run.region ?_
  refine Ops.assign rfl rfl ?_
  refine Ops.nil ?_
  refine Run.seq ?_
  refine Run.seq ?_
  refine Run.region ?_
  refine Ops.call rfl rfl Try.func17 (by kernel_rfl) (by kernel_rfl) rfl (awake_calls _) ?_
  rintro x w2 ⟨rfl, hq⟩
  have hst2 := hst.after0 hq
  refine ⟨_, rfl, ?_⟩ --ST hst2
  refine Ops.not rfl rfl ?_
  refine Ops.nil ?_
  refine Run.condF rfl (rfl) ?_
  refine Run.skip ?_
  refine Run.seq ?_
  refine Run.region ?_
  refine Ops.build [.slice none 0 0, .int .i64 0] rfl Try.underlying43 zr43 (pl43 Try.underlying43) (by kernel_rfl) rfl ?_
  refine Ops.box _ hst2 rfl rfl rfl (fun g1 wbg1 hstbg1 hgbg1 => ?_) --ST hstbg1
  refine Ops.assign rfl rfl ?_
  refine Ops.nil ?_
  refine Run.seq ?_
  have hstN := hstbg1.push (Fr.refl _ _) (own_nil 3 1 _) (fun k hk => by cases hk) --ST hstN
  refine Run.region ?_
  refine Ops.move rfl rfl ?_
  refine Ops.buildSlice [.int .i64 7] hstN rfl Try.underlying41 sz3 zr3 rfl rfl (by kernel_rfl) rfl (fun g2 w2 hst2 hg2 => ?_)
  refine Ops.call rfl rfl Try.func18 (by kernel_rfl) (by kernel_rfl) rfl (iSend g1 (.slice none 0 0) _ ([]) [7] (0) _ (by first | (simp; done) | (simp; omega)) (by simp) (by omega) (Rd_of_blk (m := 1) hst2 (i := 2) rfl rfl (by simp [Value.oneCell'])) (St.sepB (H1 := iNet g1 (.slice none 0 0) ([]) (0)) hst2) (St.hand (H1 := iNet g1 (.slice none 0 0) ([]) (0)) hst2)) ?_
  rintro x w3 ⟨rfl, v3, hq⟩
  have hst3 : St w (fps []) (iNet g1 v3 [7] 0) w3 := (St.back (H1 := iNet g1 (.slice none 0 0) [] 0) hst2 hq).sub (List.sublist_append_left _ _)
  refine ⟨_, rfl, ?_⟩ --ST hst3
  refine Ops.nil ?_
  refine Run.seq ?_
  refine Run.seq ?_
  refine Run.region ?_
  refine Ops.move rfl rfl ?_
  refine Ops.move rfl rfl ?_
  refine Ops.len rfl rfl rfl Try.underlying45 rfl ?_
  refine Ops.min2 rfl rfl rfl rfl ?_
  refine Ops.cut (i := 0) (j := min (b1.length : Int) 62) rfl Try.underlying45 sz44 rfl rfl (by omega) (by omega) (by omega) rfl ?_
  refine Ops.re 24 rfl hv ?_
  obtain ⟨A1, c1, hs1, hl1, hp1⟩ := hR.shape
  refine Ops.re 24 rfl hs1 ?_
  refine Ops.len rfl rfl rfl Try.underlying45 rfl ?_
  refine Ops.move rfl rfl ?_
  refine Ops.nil ?_
  refine Run.block ?_
  refine Run.sub (e' := [(1, .int .i16 k), (5, .pointer (some ⟨g1, 0, none⟩)), (24, .slice A1 ys.length c1), (25, .int .i64 (ys.length : Int)), (26, .int .i64 0)]) (subB_spec ⟨rfl, rfl, rfl, rfl, rfl, trivial⟩) ?_
  refine Run.loop (fun fuel e' w' => ∃ (i : Nat) (u : Value), e' = [(1, .int .i16 k), (5, .pointer (some ⟨g1, 0, none⟩)), (24, .slice A1 ys.length c1), (25, .int .i64 (ys.length : Int)), (26, .int .i64 (i : Int))] ∧ i ≤ ys.length ∧ fuel = ys.length - i ∧ St w (fps []) (iNet g1 u (7 :: ys.take i) 0) w') ys.length ⟨0, v3, rfl, by omega, by omega, hst3⟩ ?_
  rintro fuel e' w4 ⟨i, u, rfl, hi, rfl, hst4⟩ --ST hst4
  refine Run.seq ?_
  refine Run.region ?_
  refine Ops.lss rfl rfl rfl ?_
  refine Ops.nil ?_
  refine Run.seq ?_
  refine Run.cond rfl (fun hc27 => ?_) (fun hc27 => ?_)
  · skip
    have hlt : i < ys.length := by have := of_decide_eq_true hc27; omega
    obtain ⟨g, o, rfl⟩ := hp1 (by omega)
    obtain ⟨m, hmi⟩ : ∃ m, ys[i]? = some m := ⟨_, List.getElem?_eq_getElem hlt⟩
    have hmb := hyb m (List.mem_of_getElem? hmi)
    have htl : (ys.take i).length = i := by rw [List.length_take]; omega
    refine Run.skip ?_
    refine Run.seq ?_
    refine Run.block ?_
    refine Run.seq ?_
    refine Run.region ?_
    refine Ops.indexAddr (j := i) rfl rfl Try.underlying45 sz44 rfl (by omega) (by omega) (by first | rfl | (simp; done) | (simp; omega) | omega) rfl ?_
    refine Ops.load rfl Try.underlying44 rfl (((hs1 ▸ hR : Rd w 1 (.slice (some ⟨g, o, none⟩) ys.length c1) ys.length (ys.map (Value.int .i16))).later hst4 (fun k _ => fps_nil k)).cell (j := i) (by rw [List.getElem?_map, hmi]; rfl)) rfl ?_
    refine Ops.assign rfl rfl ?_
    refine Ops.nil ?_
    refine Run.region ?_
    refine Ops.move rfl rfl ?_
    refine Ops.move rfl rfl ?_
    first | refine Ops.convQ rfl Try.underlying44 Try.underlying3 (wrap_i64_in (by omega) (by omega)) rfl ?_ | refine Ops.conv rfl Try.underlying44 Try.underlying3 rfl ?_
    refine Ops.buildSlice [.int .i64 m] hst4 rfl Try.underlying41 sz3 zr3 rfl rfl (by kernel_rfl) rfl (fun g3 w3 hst3 hg3 => ?_)
    refine Ops.call rfl rfl Try.func18 (by kernel_rfl) (by kernel_rfl) rfl (iSend g1 u _ (7 :: ys.take i) [m] (0) _ (by first | (simp; done) | (simp; omega)) (by simp) (by omega) (Rd_of_blk (m := 1) hst3 (i := 2) rfl rfl (by simp [Value.oneCell'])) (St.sepB (H1 := iNet g1 u (7 :: ys.take i) (0)) hst3) (St.hand (H1 := iNet g1 u (7 :: ys.take i) (0)) hst3)) ?_
    rintro x w5 ⟨rfl, v5, hq⟩
    rw [snds_few [m] _ (by simp; omega)] at hq
    have hst5 : St w (fps []) (iNet g1 v5 (7 :: ys.take (i + 1)) 0) w5 := by
      have h := (St.back (H1 := iNet g1 u (7 :: ys.take i) 0) hst3 hq).sub (List.sublist_append_left _ _)
      rw [List.take_add_one, hmi]
      exact h
    refine ⟨_, rfl, ?_⟩ --ST hst5
    refine Ops.nil ?_
    refine Run.endBlk ?_
    refine Run.region ?_
    first | refine Ops.addI rfl rfl rfl (by omega) (by omega) ?_ | refine Ops.add rfl rfl rfl ?_
    refine Ops.move rfl rfl ?_
    refine Ops.nil ?_
    refine Run.sub (e' := [(1, .int .i16 k), (5, .pointer (some ⟨g1, 0, none⟩)), (24, .slice (some ⟨g, o, none⟩) ys.length c1), (25, .int .i64 (ys.length : Int)), (26, .int .i64 ((i + 1 : Nat) : Int))]) (subB_spec ⟨rfl, rfl, rfl, rfl, rfl, trivial⟩) (Run.stop ⟨ys.length - (i + 1), by omega, i + 1, v5, rfl, by omega, rfl, hst5⟩)
  · skip
    obtain rfl : i = ys.length := by have := of_decide_eq_false hc27; omega
    rw [List.take_length] at hst4
    obtain ⟨zs, hzs⟩ : ∃ zs, zs = 7 :: ys := ⟨_, rfl⟩
    rw [← hzs] at hst4
    have hL : 0 < zs.length ∧ zs.length ≤ 63 := by rw [hzs]; simp; omega
    obtain ⟨j, hj, hjl⟩ := emod_nat k zs.length hL.1
    obtain ⟨x0, hx0⟩ : ∃ x0, zs[j]? = some x0 := ⟨_, List.getElem?_eq_getElem hjl⟩
    refine Run.exit _ rfl ?_
    refine Run.seq ?_
    refine Run.region ?_
    refine Ops.move rfl rfl ?_
    refine Ops.call rfl rfl Try.func30 (by kernel_rfl) (by kernel_rfl) rfl (iLen g1 u zs 0 _ hst4.owns) ?_
    rintro x w6 ⟨rfl, rfl⟩
    refine ⟨_, rfl, ?_⟩
    refine Ops.assign rfl rfl ?_
    refine Ops.nil ?_
    refine Run.seq ?_
    refine Run.seq ?_
    refine Run.region ?_
    refine Ops.move rfl rfl ?_
    refine Ops.move rfl rfl ?_
    first | refine Ops.convQ rfl Try.underlying44 Try.underlying3 (wrap_i64_in (by omega) (by omega)) rfl ?_ | refine Ops.conv rfl Try.underlying44 Try.underlying3 rfl ?_
    refine Ops.call rfl rfl Try.func22 (by kernel_rfl) (by kernel_rfl) rfl (iTwice g1 u zs 0 k j x0 _ (by omega) hj hx0 (by omega) hst4.owns) ?_
    rintro x w7 ⟨rfl, v7, hq⟩
    rw [show snd1 (zs, (0 : Int)) x0 = (zs ++ [x0], 0) from by unfold snd1; rw [if_neg (by simp only []; omega)]] at hq
    have hst7 : St w (fps []) (iNet g1 v7 (zs ++ [x0]) 0) w7 := hst4.whole hq
    refine ⟨_, rfl, ?_⟩ --ST hst7
    refine Ops.not rfl rfl ?_
    refine Ops.move rfl rfl ?_
    first | refine Ops.off rfl rfl ?_ | (refine Ops.on rfl ?_; refine Ops.move rfl rfl ?_)
    refine Ops.on rfl ?_
    refine Ops.call rfl rfl Try.func30 (by kernel_rfl) (by kernel_rfl) rfl (iLen g1 v7 (zs ++ [x0]) 0 _ hst7.owns) ?_
    rintro x w8 ⟨rfl, rfl⟩
    refine ⟨_, rfl, ?_⟩
    first | refine Ops.off rfl rfl ?_ | (refine Ops.on rfl ?_; refine Ops.move rfl rfl ?_)
    first | refine Ops.off rfl rfl ?_ | (refine Ops.on rfl ?_; first | refine Ops.addI rfl rfl rfl (by omega) (by omega) ?_ | refine Ops.add rfl rfl rfl ?_)
    first | refine Ops.off rfl rfl ?_ | (refine Ops.on rfl ?_; refine Ops.neq rfl rfl rfl ?_)
    refine Ops.re 48 rfl (congrArg Value.bool (show _ = false from by simp)) ?_
    first | refine Ops.pickT rfl rfl rfl ?_ | refine Ops.pickF rfl rfl rfl ?_
    refine Ops.nil ?_
    refine Run.condF rfl (rfl) ?_
    refine Run.skip ?_
    refine Run.seq ?_
    refine Run.region ?_
    refine Ops.move rfl rfl ?_
    refine Ops.move rfl rfl ?_
    refine Ops.call rfl rfl Try.func19 (by kernel_rfl) (by kernel_rfl) rfl (iTake g1 v7 (zs ++ [x0]) 0 zs.length zs.length x0 _ (by simp; omega) (Int.emod_eq_of_lt (by omega) (by simp; omega)) (by simp) hst7.owns) ?_
    rintro x w9 ⟨rfl, v9, hq⟩
    rw [erase_last] at hq
    have hst9 := hst7.whole hq
    refine ⟨_, rfl, ?_⟩ --ST hst9
    refine Ops.move rfl rfl ?_
    refine Ops.extract rfl rfl rfl ?_
    refine Ops.extract rfl rfl rfl ?_
    refine Ops.assign rfl rfl ?_
    refine Ops.assign rfl rfl ?_
    refine Ops.nil ?_
    refine Run.seq ?_
    refine Run.region ?_
    refine Ops.move rfl rfl ?_
    refine Ops.move rfl rfl ?_
    first | refine Ops.convQ rfl Try.underlying44 Try.underlying3 (wrap_i64_in (by omega) (by omega)) rfl ?_ | refine Ops.conv rfl Try.underlying44 Try.underlying3 rfl ?_
    refine Ops.move rfl rfl ?_
    refine Ops.call rfl rfl Try.func20 (by kernel_rfl) (by kernel_rfl) rfl (lawPlace k zs.length _ hL.1 (by omega)) ?_
    rintro x w10 ⟨rfl, rfl⟩
    rw [hj]
    refine ⟨_, rfl, ?_⟩
    refine Ops.call rfl rfl Try.func19 (by kernel_rfl) (by kernel_rfl) rfl (iTake g1 v9 zs 0 j j x0 _ (by omega) (Int.emod_eq_of_lt (by omega) (by omega)) hx0 hst9.owns) ?_
    rintro x w11 ⟨rfl, v11, hq⟩
    have hst11 := hst9.whole hq
    refine ⟨_, rfl, ?_⟩ --ST hst11
    refine Ops.move rfl rfl ?_
    refine Ops.extract rfl rfl rfl ?_
    refine Ops.extract rfl rfl rfl ?_
    refine Ops.assign rfl rfl ?_
    refine Ops.assign rfl rfl ?_
    refine Ops.nil ?_
    refine Run.seq ?_
    refine Run.region ?_
    refine Ops.move rfl rfl ?_
    refine Ops.move rfl rfl ?_
    first | refine Ops.off rfl rfl ?_ | (refine Ops.on rfl ?_; refine Ops.move rfl rfl ?_)
    first | refine Ops.pickT rfl rfl rfl ?_ | refine Ops.pickF rfl rfl rfl ?_
    refine Ops.move rfl rfl ?_
    first | refine Ops.off rfl rfl ?_ | (refine Ops.on rfl ?_; refine Ops.move rfl rfl ?_)
    first | refine Ops.off rfl rfl ?_ | (refine Ops.on rfl ?_; refine Ops.move rfl rfl ?_)
    first | refine Ops.off rfl rfl ?_ | (refine Ops.on rfl ?_; refine Ops.eql rfl rfl rfl ?_)
    refine Ops.re 72 rfl (congrArg Value.bool (show _ = true from by simp)) ?_
    first | refine Ops.pickT rfl rfl rfl ?_ | refine Ops.pickF rfl rfl rfl ?_
    refine Ops.move rfl rfl ?_
    first | refine Ops.off rfl rfl ?_ | (refine Ops.on rfl ?_; refine Ops.move rfl rfl ?_)
    refine Ops.on rfl ?_
    refine Ops.call rfl rfl Try.func30 (by kernel_rfl) (by kernel_rfl) rfl (iLen g1 v11 (zs.eraseIdx j) 0 _ hst11.owns) ?_
    rintro x w12 ⟨rfl, rfl⟩
    refine ⟨_, rfl, ?_⟩
    first | refine Ops.off rfl rfl ?_ | (refine Ops.on rfl ?_; refine Ops.move rfl rfl ?_)
    first | refine Ops.off rfl rfl ?_ | (refine Ops.on rfl ?_; first | refine Ops.subI rfl rfl rfl (by omega) (by omega) ?_ | refine Ops.sub rfl rfl rfl ?_)
    first | refine Ops.off rfl rfl ?_ | (refine Ops.on rfl ?_; refine Ops.eql rfl rfl rfl ?_)
    refine Ops.re 79 rfl (congrArg Value.bool (show _ = true from by rw [List.length_eraseIdx_of_lt hjl]; simp; omega)) ?_
    first | refine Ops.pickT rfl rfl rfl ?_ | refine Ops.pickF rfl rfl rfl ?_
    refine Ops.move rfl rfl ?_
    first | refine Ops.off rfl rfl ?_ | (refine Ops.on rfl ?_; refine Ops.move rfl rfl ?_)
    refine Ops.on rfl ?_
    refine Ops.call rfl rfl Try.func31 (by kernel_rfl) (by kernel_rfl) rfl (iLost g1 v11 (zs.eraseIdx j) 0 _ hst11.owns) ?_
    rintro x w13 ⟨rfl, rfl⟩
    refine ⟨_, rfl, ?_⟩
    first | refine Ops.off rfl rfl ?_ | (refine Ops.on rfl ?_; refine Ops.eql rfl rfl rfl ?_)
    first | refine Ops.pickT rfl rfl rfl ?_ | refine Ops.pickF rfl rfl rfl ?_
    refine Ops.assign rfl rfl ?_
    refine Ops.nil ?_
    refine Run.ret _ rfl (fun a ha => res1 rfl rfl ha) ?_
    exact ⟨rfl, hst11.sub (List.nil_sublist _)⟩

end Go.Proofs.Ytiijlkebolfcpaa.Net5
