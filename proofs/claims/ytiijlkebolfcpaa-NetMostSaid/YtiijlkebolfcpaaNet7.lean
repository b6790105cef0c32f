/- Net: walks. -/
import Derived.Test.YtiijlkebolfcpaaNet6
namespace Go.Proofs.Ytiijlkebolfcpaa.Net7
open Go Go.RowKit Go.Proofs.Ytiijlkebolfcpaa.Sx Go.Proofs.Ytiijlkebolfcpaa.Net Go.Proofs.Ytiijlkebolfcpaa.Net2 Go.Proofs.Ytiijlkebolfcpaa.Net3 Go.Proofs.Ytiijlkebolfcpaa.Net4 Go.Proofs.Ytiijlkebolfcpaa.Net5 Go.Proofs.Ytiijlkebolfcpaa.Net6
set_option linter.unusedVariables false
set_option linter.unusedSimpArgs false
theorem sz5 : (Try.prog.info? 5).map (·.size) = some 1 := by kernel_rfl
theorem sz9 : (Try.prog.info? 9).map (·.size) = some 1 := by kernel_rfl
theorem sz44 : (Try.prog.info? 44).map (·.size) = some 1 := by kernel_rfl
theorem zr5 : (Try.prog.info? 5).map (·.zero) = some (some (.int .u8 0)) := by kernel_rfl
theorem zr9 : (Try.prog.info? 9).map (·.zero) = some (some (.string ⟨#[]⟩)) := by kernel_rfl
theorem zr58 : (Try.prog.info? 58).map (·.zero) = some (some (.agg #[.slice none 0 0, .int .i64 0])) := by kernel_rfl
theorem pl58 {fs : Array Field} (h : Try.prog.underlying 58 = some (.struct fs)) (w : World) : (fs.mapM fun f => do pure (f.offset, ← sizeOf f.type) : Sem (Array (Nat × Nat))).run Try.prog w = .ok #[(0, 1), (1, 1)] w := by
  rw [Try.underlying58] at h
  cases h
  kernel_rfl

def msg (x : Int) : ByteArray := strOfNums [IntKind.u8.wrap x, IntKind.u8.wrap (x / 256)]

set_option maxRecDepth 100000 in
set_option maxHeartbeats 2000000 in
theorem orderLaw (s : Value) (b1 : List Int) (k : Int) (w : World) (hb : ∀ x ∈ b1, -32768 ≤ x ∧ x < 32768) (hr : Rd w 1 s b1.length (b1.map (Value.int .i16))) (hk : 0 ≤ k ∧ k < 256) :
    Calls Try.prog 9 #[s, .int .u8 k] w fun e w' => e = .returned (.bool true) ∧ St w (fps []) [] w' := by
  have hst : St w (fps []) [] w := St.nil _ _
  obtain ⟨A, c, rfl, hl, -⟩ := hr.shape
  obtain ⟨ys, hys⟩ : ∃ ys, ys = b1.take (min b1.length 64) := ⟨_, rfl⟩
  have hyl : ys.length = min b1.length 64 := by rw [hys, List.length_take]; omega
  obtain ⟨s', hs'⟩ : ∃ s', s' = Value.slice (if c = 0 then A else A.map (·.add (0 * 1))) (min b1.length 64) c := ⟨_, rfl⟩
  have hR : Rd w 1 s' ys.length (ys.map (Value.int .i16)) := by
    rw [hyl, hs', hys, List.map_take]
    exact hr.pre _ (by omega) hl
  have hv : Value.slice (if c = (0 : Int).toNat then A else A.map (·.add ((0 : Int).toNat * 1))) ((min (b1.length : Int) 64).toNat - (0 : Int).toNat) (c - (0 : Int).toNat) = s' := by
    rw [hs', show (min (b1.length : Int) 64).toNat - (0 : Int).toNat = min b1.length 64 from by omega]
    rfl
  clear hs' hys
  have hy64 : ys.length ≤ 64 := by omega
  obtain ⟨A1, c1, rfl, hl1, hp1⟩ := hR.shape
  refine calls_of_run Try.func9 rfl rfl ?_
  refine Run.seq ?_
  refine Run.region ?_
  refine Ops.assign rfl rfl ?_
  refine Ops.nil ?_
  refine Run.seq ?_
  refine Run.seq ?_
  refine Run.region ?_
  refine Ops.call rfl rfl Try.func17 (by kernel_rfl) (by kernel_rfl) rfl (awake_calls _) ?_
  rintro x w2 ⟨rfl, hq⟩
  have hst2 := hst.after0 hq
  refine ⟨_, rfl, ?_⟩ --ST hst2
  refine Ops.not rfl rfl ?_
  refine Ops.nil ?_
  refine Run.condF rfl (rfl) ?_
  refine Run.skip ?_
  refine Run.seq ?_
  refine Run.region ?_
  refine Ops.build [.slice none 0 0, .int .i64 0] rfl Try.underlying58 zr58 (pl58 Try.underlying58) (by kernel_rfl) rfl ?_
  refine Ops.box _ hst2 rfl rfl rfl (fun g1 wbg1 hstbg1 hgbg1 => ?_) --ST hstbg1
  refine Ops.assign rfl rfl ?_
  refine Ops.nil ?_
  refine Run.seq ?_
  refine Run.region ?_
  refine Ops.move rfl rfl ?_
  refine Ops.move rfl rfl ?_
  refine Ops.len rfl rfl rfl Try.underlying45 rfl ?_
  refine Ops.min2 rfl rfl rfl rfl ?_
  refine Ops.cut (i := 0) (j := min (b1.length : Int) 64) rfl Try.underlying45 sz44 rfl rfl (by omega) (by omega) (by omega) rfl ?_
  refine Ops.re 22 rfl hv ?_
  refine Ops.assign rfl rfl ?_
  refine Ops.nil ?_
  refine Run.seq ?_
  refine Run.seq ?_
  have hstN := hstbg1.push (Fr.refl _ _) (own_nil 9 1 _) (fun k hk => by cases hk) --ST hstN
  refine Run.region ?_
  refine Ops.move rfl rfl ?_
  refine Ops.len rfl rfl rfl Try.underlying45 rfl ?_
  refine Ops.move rfl rfl ?_
  refine Ops.nil ?_
  refine Run.block ?_
  refine Run.sub (e' := [(0, .slice A1 ys.length c1), (1, .int .u8 k), (5, .pointer (some ⟨g1, 0, none⟩)), (23, .slice A1 ys.length c1), (24, .int .i64 (ys.length : Int)), (25, .int .i64 0)]) (subB_spec ⟨rfl, rfl, rfl, rfl, rfl, rfl, trivial⟩) ?_
  refine Run.loop (fun fuel e' w' => ∃ (i : Nat) (u : Value), e' = [(0, .slice A1 ys.length c1), (1, .int .u8 k), (5, .pointer (some ⟨g1, 0, none⟩)), (23, .slice A1 ys.length c1), (24, .int .i64 (ys.length : Int)), (25, .int .i64 (i : Int))] ∧ i ≤ ys.length ∧ fuel = ys.length - i ∧ St w (fps []) (sNet g1 u ((ys.take i).map msg) 0) w') ys.length ⟨0, _, rfl, by omega, by omega, hstN⟩ ?_
  rintro fuel e' w4 ⟨i, u, rfl, hi, rfl, hst4⟩ --ST hst4
  refine Run.seq ?_
  refine Run.region ?_
  refine Ops.lss rfl rfl rfl ?_
  refine Ops.nil ?_
  refine Run.seq ?_
  refine Run.cond rfl (fun hc26 => ?_) (fun hc26 => ?_)
  · skip
    have hlt : i < ys.length := by have := of_decide_eq_true hc26; omega
    obtain ⟨g, o, rfl⟩ := hp1 (by omega)
    obtain ⟨m, hmi⟩ : ∃ m, ys[i]? = some m := ⟨_, List.getElem?_eq_getElem hlt⟩
    have htl : ((ys.take i).map msg).length = i := by rw [List.length_map, List.length_take]; omega
    refine Run.skip ?_
    refine Run.seq ?_
    refine Run.block ?_
    refine Run.seq ?_
    refine Run.region ?_
    refine Ops.indexAddr (j := i) rfl rfl Try.underlying45 sz44 rfl (by omega) (by omega) (by first | rfl | (simp; done) | (simp; omega) | omega) rfl ?_
    refine Ops.load rfl Try.underlying44 rfl ((hR.later hst4 (fun k _ => fps_nil k)).cell (j := i) (by rw [List.getElem?_map, hmi]; rfl)) rfl ?_
    refine Ops.assign rfl rfl ?_
    refine Ops.nil ?_
    refine Run.region ?_
    refine Ops.move rfl rfl ?_
    refine Ops.move rfl rfl ?_
    first | refine Ops.convQ rfl Try.underlying44 Try.underlying5 (wrap_u8_in (by omega) (by omega)) rfl ?_ | refine Ops.conv rfl Try.underlying44 Try.underlying5 rfl ?_
    refine Ops.move rfl rfl ?_
    refine Ops.shr (m := 256) rfl rfl (by decide) (by decide) (by decide) rfl ?_
    first | refine Ops.convQ rfl Try.underlying44 Try.underlying5 (wrap_u8_in (by omega) (by omega)) rfl ?_ | refine Ops.conv rfl Try.underlying44 Try.underlying5 rfl ?_
    refine Ops.buildSlice [.int .u8 (IntKind.u8.wrap m), .int .u8 (IntKind.u8.wrap (m / 256))] hst4 rfl Try.underlying22 sz5 zr5 rfl rfl (by kernel_rfl) rfl (fun g2 w2 hst2 hg2 => ?_)
    refine Ops.toStr [IntKind.u8.wrap m, IntKind.u8.wrap (m / 256)] rfl Try.underlying22 Try.underlying5 Try.underlying9 (Rd_of_blk hst2 (i := 2) rfl rfl (by simp [Value.oneCell'])) rfl ?_
    refine Ops.buildSlice [.string (msg m)] hst2 rfl Try.underlying56 sz9 zr9 rfl rfl (by kernel_rfl) rfl (fun g3 w3 hst3 hg3 => ?_)
    refine Ops.call rfl rfl Try.func24 (by kernel_rfl) (by kernel_rfl) rfl (sSend g1 u _ ((ys.take i).map msg) [msg m] 0 _ (by omega) (by simp) (by omega) (Rd_of_blk (m := 1) hst3 (i := 3) rfl rfl (by simp [Value.oneCell'])) (St.sepI (H1 := sNet g1 u ((ys.take i).map msg) 0) hst3 1 rfl) (St.hand (H1 := sNet g1 u ((ys.take i).map msg) 0) hst3)) ?_
    rintro x w5 ⟨rfl, v5, hq⟩
    rw [snds_few [msg m] _ (by simp only [htl]; simp; omega)] at hq
    have hst5 : St w (fps []) (sNet g1 v5 ((ys.take (i + 1)).map msg) 0) w5 := by
      have h := St.back (H1 := sNet g1 u ((ys.take i).map msg) 0) hst3 hq
      rw [List.take_add_one, hmi, List.map_append]
      exact h.sub (List.sublist_append_left (sNet g1 v5 ((ys.take i).map msg ++ [msg m]) 0) _)
    refine ⟨_, rfl, ?_⟩ --ST hst5
    refine Ops.nil ?_
    refine Run.endBlk ?_
    refine Run.region ?_
    first | refine Ops.addI rfl rfl rfl (by omega) (by omega) ?_ | refine Ops.add rfl rfl rfl ?_
    refine Ops.move rfl rfl ?_
    refine Ops.nil ?_
    refine Run.sub (e' := [(0, .slice (some ⟨g, o, none⟩) ys.length c1), (1, .int .u8 k), (5, .pointer (some ⟨g1, 0, none⟩)), (23, .slice (some ⟨g, o, none⟩) ys.length c1), (24, .int .i64 (ys.length : Int)), (25, .int .i64 ((i + 1 : Nat) : Int))]) (subB_spec ⟨rfl, rfl, rfl, rfl, rfl, rfl, trivial⟩) (Run.stop ⟨ys.length - (i + 1), by omega, i + 1, v5, rfl, by omega, rfl, hst5⟩)
  · skip
    obtain rfl : i = ys.length := by have := of_decide_eq_false hc26; omega
    rw [List.take_length] at hst4
    refine Run.exit _ rfl ?_
    refine Run.seq ?_
    refine Run.seq ?_
    refine Run.region ?_
    refine Ops.move rfl rfl ?_
    refine Ops.len rfl rfl rfl Try.underlying45 rfl ?_
    refine Ops.move rfl rfl ?_
    refine Ops.nil ?_
    refine Run.block ?_
    refine Run.sub (e' := [(1, .int .u8 k), (5, .pointer (some ⟨g1, 0, none⟩)), (40, .slice A1 ys.length c1), (41, .int .i64 (ys.length : Int)), (42, .int .i64 0)]) (subB_spec ⟨rfl, rfl, rfl, rfl, rfl, trivial⟩) ?_
    refine Run.loop (fun fuel e' w' => ∃ (i : Nat) (u : Value), e' = [(1, .int .u8 k), (5, .pointer (some ⟨g1, 0, none⟩)), (40, .slice A1 ys.length c1), (41, .int .i64 (ys.length : Int)), (42, .int .i64 (i : Int))] ∧ i ≤ ys.length ∧ fuel = ys.length - i ∧ St w (fps []) (sNet g1 u ((ys.drop i).map msg) 0) w') ys.length ⟨0, _, rfl, by omega, by omega, hst4⟩ ?_
    rintro fuel e' w6 ⟨i, u, rfl, hi, rfl, hst6⟩ --ST hst6
    refine Run.seq ?_
    refine Run.region ?_
    refine Ops.lss rfl rfl rfl ?_
    refine Ops.nil ?_
    refine Run.seq ?_
    refine Run.cond rfl (fun hc43 => ?_) (fun hc43 => ?_)
    · skip
      have hlt : i < ys.length := by have := of_decide_eq_true hc43; omega
      obtain ⟨g, o, rfl⟩ := hp1 (by omega)
      obtain ⟨m, hmi⟩ : ∃ m, ys[i]? = some m := ⟨_, List.getElem?_eq_getElem hlt⟩
      have htl : ((ys.take i).map msg).length = i := by rw [List.length_map, List.length_take]; omega
      have hdr : ys.drop i = m :: ys.drop (i + 1) := by rw [List.drop_eq_getElem_cons hlt, (List.getElem?_eq_some_iff.1 hmi).2]
      rw [hdr, List.map_cons] at hst6
      have hdl : (msg m :: (ys.drop (i + 1)).map msg).length ≤ 64 := by rw [List.length_cons, List.length_map, List.length_drop]; omega
      refine Run.skip ?_
      refine Run.seq ?_
      refine Run.block ?_
      refine Run.seq ?_
      refine Run.region ?_
      refine Ops.indexAddr (j := i) rfl rfl Try.underlying45 sz44 rfl (by omega) (by omega) (by first | rfl | (simp; done) | (simp; omega) | omega) rfl ?_
      refine Ops.load rfl Try.underlying44 rfl ((hR.later hst6 (fun k _ => fps_nil k)).cell (j := i) (by rw [List.getElem?_map, hmi]; rfl)) rfl ?_
      refine Ops.assign rfl rfl ?_
      refine Ops.nil ?_
      refine Run.seq ?_
      refine Run.region ?_
      refine Ops.move rfl rfl ?_
      refine Ops.call rfl rfl Try.func25 (by kernel_rfl) (by kernel_rfl) rfl (sTake g1 u (msg m :: (ys.drop (i + 1)).map msg) 0 0 0 (msg m) _ (by omega) (by simp) rfl hst6.owns) ?_
      rintro x w7 ⟨rfl, v7, hq⟩
      have hst7 : St w (fps []) (sNet g1 v7 ((ys.drop (i + 1)).map msg) 0) w7 := hst6.whole hq
      refine ⟨_, rfl, ?_⟩ --ST hst7
      refine Ops.move rfl rfl ?_
      refine Ops.extract rfl rfl rfl ?_
      refine Ops.extract rfl rfl rfl ?_
      refine Ops.assign rfl rfl ?_
      refine Ops.assign rfl rfl ?_
      refine Ops.nil ?_
      refine Run.seq ?_
      refine Run.region ?_
      refine Ops.move rfl rfl ?_
      refine Ops.not rfl rfl ?_
      refine Ops.move rfl rfl ?_
      first | refine Ops.off rfl rfl ?_ | (refine Ops.on rfl ?_; refine Ops.move rfl rfl ?_)
      first | refine Ops.off rfl rfl ?_ | (refine Ops.on rfl ?_; refine Ops.move rfl rfl ?_)
      first | refine Ops.off rfl rfl ?_ | (refine Ops.on rfl ?_; first | refine Ops.convQ rfl Try.underlying44 Try.underlying5 (wrap_u8_in (by omega) (by omega)) rfl ?_ | refine Ops.conv rfl Try.underlying44 Try.underlying5 rfl ?_)
      first | refine Ops.off rfl rfl ?_ | (refine Ops.on rfl ?_; refine Ops.move rfl rfl ?_)
      first | refine Ops.off rfl rfl ?_ | (refine Ops.on rfl ?_; refine Ops.shr (m := 256) rfl rfl (by decide) (by decide) (by decide) rfl ?_)
      first | refine Ops.off rfl rfl ?_ | (refine Ops.on rfl ?_; first | refine Ops.convQ rfl Try.underlying44 Try.underlying5 (wrap_u8_in (by omega) (by omega)) rfl ?_ | refine Ops.conv rfl Try.underlying44 Try.underlying5 rfl ?_)
      first | refine Ops.on rfl ?_ | refine Ops.off rfl rfl ?_
      refine Ops.buildSlice [.int .u8 (IntKind.u8.wrap m), .int .u8 (IntKind.u8.wrap (m / 256))] hst7 rfl Try.underlying22 sz5 zr5 rfl rfl (by kernel_rfl) rfl (fun g4 w4 hst4 hg4 => ?_)
      refine Ops.on rfl ?_
      refine Ops.toStr [IntKind.u8.wrap m, IntKind.u8.wrap (m / 256)] rfl Try.underlying22 Try.underlying5 Try.underlying9 (Rd_of_blk hst4 (i := 2) rfl rfl (by simp [Value.oneCell'])) rfl ?_
      refine Ops.on rfl ?_
      refine Ops.neqS rfl rfl rfl ?_
      refine Ops.re 62 (v' := .bool false) rfl (by show Value.bool (!decide (msg m = msg m)) = _; simp) ?_
      first | refine Ops.pickT rfl rfl rfl ?_ | refine Ops.pickF rfl rfl rfl ?_
      refine Ops.nil ?_
      refine Run.condF rfl (rfl) ?_
      refine Run.skip ?_
      refine Run.endBlk ?_
      refine Run.region ?_
      first | refine Ops.addI rfl rfl rfl (by omega) (by omega) ?_ | refine Ops.add rfl rfl rfl ?_
      refine Ops.move rfl rfl ?_
      refine Ops.nil ?_
      refine Run.sub (e' := [(1, .int .u8 k), (5, .pointer (some ⟨g1, 0, none⟩)), (40, .slice (some ⟨g, o, none⟩) ys.length c1), (41, .int .i64 (ys.length : Int)), (42, .int .i64 ((i + 1 : Nat) : Int))]) (subB_spec ⟨rfl, rfl, rfl, rfl, rfl, trivial⟩) (Run.stop ⟨ys.length - (i + 1), by omega, i + 1, v7, rfl, by omega, rfl, hst4.sub (List.sublist_append_left (sNet g1 v7 ((ys.drop (i + 1)).map msg) 0) _)⟩)
    · skip
      obtain rfl : i = ys.length := by have := of_decide_eq_false hc43; omega
      rw [List.drop_length] at hst6
      have hstE : St w (fps []) (sNet g1 u ([]) 0) w6 := hst6 --ST hstE
      refine Run.exit _ rfl ?_
      refine Run.seq ?_
      refine Run.region ?_
      refine Ops.move rfl rfl ?_
      refine Ops.move rfl rfl ?_
      first | refine Ops.convQ rfl Try.underlying5 Try.underlying3 (wrap_i64_in (by omega) (by omega)) rfl ?_ | refine Ops.conv rfl Try.underlying5 Try.underlying3 rfl ?_
      refine Ops.call rfl rfl Try.func25 (by kernel_rfl) (by kernel_rfl) rfl (sTake0 g1 u 0 k _ hstE.owns) ?_
      rintro x w8 ⟨rfl, rfl⟩
      refine ⟨_, rfl, ?_⟩
      refine Ops.move rfl rfl ?_
      refine Ops.extract rfl rfl rfl ?_
      refine Ops.extract rfl rfl rfl ?_
      refine Ops.assign rfl rfl ?_
      refine Ops.assign rfl rfl ?_
      refine Ops.nil ?_
      refine Run.seq ?_
      refine Run.region ?_
      refine Ops.move rfl rfl ?_
      refine Ops.not rfl rfl ?_
      refine Ops.move rfl rfl ?_
      first | refine Ops.off rfl rfl ?_ | (refine Ops.on rfl ?_; refine Ops.move rfl rfl ?_)
      first | refine Ops.off rfl rfl ?_ | (refine Ops.on rfl ?_; refine Ops.move rfl rfl ?_)
      first | refine Ops.off rfl rfl ?_ | (refine Ops.on rfl ?_; first | refine Ops.convQ rfl Try.underlying5 Try.underlying3 (wrap_i64_in (by omega) (by omega)) rfl ?_ | refine Ops.conv rfl Try.underlying5 Try.underlying3 rfl ?_)
      refine Ops.on rfl ?_
      refine Ops.call rfl rfl Try.func26 (by kernel_rfl) (by kernel_rfl) rfl (sDrop0 g1 u 0 k _ hstE.owns) ?_
      rintro x w9 ⟨rfl, rfl⟩
      refine ⟨_, rfl, ?_⟩
      first | refine Ops.off rfl rfl ?_ | (refine Ops.on rfl ?_; refine Ops.not rfl rfl ?_)
      first | refine Ops.pickT rfl rfl rfl ?_ | refine Ops.pickF rfl rfl rfl ?_
      refine Ops.move rfl rfl ?_
      first | refine Ops.off rfl rfl ?_ | (refine Ops.on rfl ?_; refine Ops.move rfl rfl ?_)
      first | refine Ops.off rfl rfl ?_ | (refine Ops.on rfl ?_; refine Ops.move rfl rfl ?_)
      first | refine Ops.off rfl rfl ?_ | (refine Ops.on rfl ?_; first | refine Ops.convQ rfl Try.underlying5 Try.underlying3 (wrap_i64_in (by omega) (by omega)) rfl ?_ | refine Ops.conv rfl Try.underlying5 Try.underlying3 rfl ?_)
      refine Ops.on rfl ?_
      refine Ops.call rfl rfl Try.func27 (by kernel_rfl) (by kernel_rfl) rfl (sTwice0 g1 u 0 k _ hstE.owns) ?_
      rintro x w10 ⟨rfl, rfl⟩
      refine ⟨_, rfl, ?_⟩
      first | refine Ops.off rfl rfl ?_ | (refine Ops.on rfl ?_; refine Ops.not rfl rfl ?_)
      first | refine Ops.pickT rfl rfl rfl ?_ | refine Ops.pickF rfl rfl rfl ?_
      refine Ops.move rfl rfl ?_
      first | refine Ops.off rfl rfl ?_ | (refine Ops.on rfl ?_; refine Ops.move rfl rfl ?_)
      refine Ops.on rfl ?_
      refine Ops.call rfl rfl Try.func28 (by kernel_rfl) (by kernel_rfl) rfl (sLost g1 u [] 0 _ hstE.owns) ?_
      rintro x w11 ⟨rfl, rfl⟩
      refine ⟨_, rfl, ?_⟩
      first | refine Ops.off rfl rfl ?_ | (refine Ops.on rfl ?_; refine Ops.eql rfl rfl rfl ?_)
      first | refine Ops.pickT rfl rfl rfl ?_ | refine Ops.pickF rfl rfl rfl ?_
      refine Ops.assign rfl rfl ?_
      refine Ops.nil ?_
      refine Run.ret _ rfl (fun a ha => res1 rfl rfl ha) ?_
      exact ⟨rfl, hstE.sub (List.nil_sublist _)⟩

end Go.Proofs.Ytiijlkebolfcpaa.Net7
