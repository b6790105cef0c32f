/- Script: walks. -/
import Derived.Test.YtiijlkebolfcpaaScript4
namespace Go.Proofs.Ytiijlkebolfcpaa.Script5
open Go Go.RowKit Go.Proofs.Ytiijlkebolfcpaa.Sx Go.Proofs.Ytiijlkebolfcpaa.Script Go.Proofs.Ytiijlkebolfcpaa.Script2 Go.Proofs.Ytiijlkebolfcpaa.Script3 Go.Proofs.Ytiijlkebolfcpaa.Script4
set_option linter.unusedVariables false
set_option linter.unusedSimpArgs false
theorem sz5 : (Try.prog.info? 5).map (·.size) = some 1 := by kernel_rfl
theorem sz32 : (Try.prog.info? 32).map (·.size) = some 11 := by kernel_rfl
theorem eqr30 (d : Nat) (x0 : Int) (x1 : Int) (x2 : Int) (x3 : ByteArray) (x4 : ByteArray) (x5 : ByteArray) : EqR Try.prog (d + 2) 30 (.agg #[.int .i64 x0, .int .i64 x1, .int .i64 x2, .string x3, .string x4, .string x5]) :=
  EqR.agg Try.underlying30 (by kernel_rfl) ⟨⟨_, fun w => rfl, EqR.int Try.underlying28⟩, ⟨_, fun w => rfl, EqR.int Try.underlying3⟩, ⟨_, fun w => rfl, EqR.int Try.underlying3⟩, ⟨_, fun w => rfl, EqR.str Try.underlying9⟩, ⟨_, fun w => rfl, EqR.str Try.underlying9⟩, ⟨_, fun w => rfl, EqR.str Try.underlying9⟩, trivial⟩
theorem eqr32 (d : Nat) (x0 : Int) (x1 : Int) (x2 : Int) (x3 : Int) (x4 : Int) (x5 : Int) (x6 : Int) (x7 : Int) (x8 : ByteArray) (x9 : ByteArray) (x10 : ByteArray) : EqR Try.prog (d + 3) 32 (.agg #[.int .i64 x0, .int .i64 x1, .int .i64 x2, .int .i64 x3, .int .i64 x4, .int .i64 x5, .int .i64 x6, .int .i64 x7, .string x8, .string x9, .string x10]) :=
  EqR.agg Try.underlying32 (by kernel_rfl) ⟨⟨_, fun w => rfl, EqR.int Try.underlying26⟩, ⟨_, fun w => rfl, EqR.int Try.underlying3⟩, ⟨_, fun w => rfl, EqR.int Try.underlying3⟩, ⟨_, fun w => rfl, EqR.int Try.underlying3⟩, ⟨_, fun w => rfl, EqR.int Try.underlying27⟩, ⟨_, fun w => rfl, EqR.agg Try.underlying30 (by kernel_rfl) ⟨⟨_, fun w => rfl, EqR.int Try.underlying28⟩, ⟨_, fun w => rfl, EqR.int Try.underlying3⟩, ⟨_, fun w => rfl, EqR.int Try.underlying3⟩, ⟨_, fun w => rfl, EqR.str Try.underlying9⟩, ⟨_, fun w => rfl, EqR.str Try.underlying9⟩, ⟨_, fun w => rfl, EqR.str Try.underlying9⟩, trivial⟩⟩, trivial⟩
theorem inf5 : (Try.prog.info? 5).map (fun i => (i.zero, i.size, i.bytes)) = some (some (.int .u8 0), 1, 1) := by kernel_rfl

theorem oneAt_right (l r : List Int) (j : Nat) (h : l.length ≤ j) : (l ++ r).drop j = r.drop (j - l.length) := by
  rw [List.drop_append, List.drop_of_length_le h, List.nil_append]
theorem oneAt_leftd (l r : List Int) (j : Nat) (h : j + 4 ≤ l.length) : oneAt ((l ++ r).drop j) = oneAt (l.drop j) := by
  rw [List.drop_append_of_le_length (by omega), oneAt_left _ _ (by rw [List.length_drop]; omega)]

set_option maxRecDepth 100000 in
set_option maxHeartbeats 2000000 in
theorem parts_calls (s1 s2 : Value) (b1 b2 : List Int) (w : World) (hb1 : Bytes b1) (hm1 : b1.length ≤ 1048576) (hr1 : Rd w 1 s1 b1.length (b1.map (Value.int .u8))) (hb2 : Bytes b2) (hm2 : b2.length ≤ 1048576) (hr2 : Rd w 1 s2 b2.length (b2.map (Value.int .u8))) :
    Calls Try.prog 4 #[s1, s2] w fun e w' => e = .returned (.bool true) ∧ St w (fps []) [] w' := by
  have hst : St w (fps []) [] w := St.nil _ _
  obtain ⟨A1, c1, rfl, hl1, -⟩ := hr1.shape
  obtain ⟨q, hq0⟩ : ∃ q, b1.length / 4 = q := ⟨_, rfl⟩
  obtain ⟨B1, hB1⟩ : ∃ B, B = b1.take (4 * q) := ⟨_, rfl⟩
  have hB1l : B1.length = 4 * q := by rw [hB1, List.length_take]; omega
  have hB1b : Bytes B1 := fun x hx => hb1 x (List.mem_of_mem_take (hB1 ▸ hx))
  obtain ⟨s1', hs1'⟩ : ∃ s', s' = Value.slice (if c1 = 0 then A1 else A1.map (·.add (0 * 1))) (4 * q) c1 := ⟨_, rfl⟩
  have hR1 : Rd w 1 s1' B1.length (B1.map (Value.int .u8)) := by
    rw [hB1l, hs1', hB1, List.map_take]
    exact hr1.pre _ (by omega) hl1
  have hv1 : Value.slice (if c1 = (0 : Int).toNat then A1 else A1.map (·.add ((0 : Int).toNat * 1))) (((b1.length : Int) / 4 * 4).toNat - (0 : Int).toNat) (c1 - (0 : Int).toNat) = s1' := by
    rw [hs1', show ((b1.length : Int) / 4 * 4).toNat - (0 : Int).toNat = 4 * q from by omega]
    rfl
  obtain ⟨A2, c2, rfl, hl2, -⟩ := hr2.shape
  refine calls_of_run Try.func4 rfl rfl ?_
  refine Run.seq ?_
  refine Run.region ?_
  refine Ops.assign rfl rfl ?_
  refine Ops.nil ?_
  refine Run.seq ?_
  refine Run.seq ?_
  refine Run.region ?_
  refine Ops.call rfl rfl Try.func13 (by kernel_rfl) (by kernel_rfl) rfl (awake_calls _ (St.nil _ _)) ?_
  rintro x w2 ⟨rfl, hq⟩
  have hst2 := hst.after0 hq
  refine ⟨_, rfl, ?_⟩ --ST hst2
  refine Ops.not rfl rfl ?_
  refine Ops.nil ?_
  refine Run.condF rfl (rfl) ?_
  refine Run.skip ?_
  refine Run.seq ?_
  refine Run.region ?_
  refine Ops.move rfl rfl ?_
  refine Ops.move rfl rfl ?_
  refine Ops.len rfl rfl rfl Try.underlying22 rfl ?_
  first | refine Ops.quoI rfl rfl rfl (by omega) (by omega) (by omega) ?_ | refine Ops.quo rfl rfl rfl (by omega) ?_
  first | refine Ops.mulI rfl rfl rfl (by omega) (by omega) ?_ | refine Ops.mul rfl rfl rfl ?_
  refine Ops.cut (i := 0) (j := (b1.length : Int) / 4 * 4) rfl Try.underlying22 sz5 rfl rfl (by omega) (by omega) (by omega) rfl ?_
  refine Ops.re 16 rfl hv1 ?_
  refine Ops.assign rfl rfl ?_
  refine Ops.nil ?_
  refine Run.seq ?_
  refine Run.region ?_
  refine Ops.move rfl rfl ?_
  refine Ops.call rfl rfl Try.func14 (by kernel_rfl) (by kernel_rfl) rfl (acts_calls _ (B1) _ (hB1b) (by omega) (hR1.later hst2 (fun k _ => fps_nil k)) (St.nil _ _)) ?_
  rintro x wX ⟨X, rfl, hqX⟩
  rw [show B1.length / 4 = q from by omega] at hqX
  have hstX := hst2.back (H1 := []) hqX
  obtain ⟨AX, cX, rfl, hcX, hpX⟩ := (hstX.rd (i := 0) rfl).shape
  refine ⟨_, rfl, ?_⟩ --ST hstX
  refine Ops.move rfl rfl ?_
  refine Ops.call rfl rfl Try.func14 (by kernel_rfl) (by kernel_rfl) rfl (acts_calls _ (b2) _ (hb2) (by omega) (hr2.later hstX (fun k _ => fps_nil k)) (St.nil _ _)) ?_
  rintro x wY ⟨Y, rfl, hqY⟩
  skip
  have hstY := hstX.back (H1 := []) hqY
  obtain ⟨AY, cY, rfl, hcY, hpY⟩ := (hstY.rd (i := 0) rfl).shape
  have hstP := hstY.push (Fr.refl _ _) (own_nil 5 1 _) (fun k hk => by cases hk)
  refine ⟨_, rfl, ?_⟩ --ST hstP
  refine Ops.assign rfl rfl ?_
  refine Ops.assign rfl rfl ?_
  refine Ops.nil ?_
  refine Run.seq ?_
  refine Run.region ?_
  refine Ops.move rfl rfl ?_
  refine Ops.append 2 hstP rfl rfl rfl rfl rfl Try.underlying22 inf5 rfl (by omega) (hR1.later hstP (fun k _ => fps_nil k)) (by simp only [maxLen]; omega) (by omega) rfl (fun u1 wA hstA hnilA => ?_) --ST hstA
  refine Ops.move rfl rfl ?_
  refine Ops.append 2 hstA rfl rfl rfl rfl rfl Try.underlying22 inf5 rfl (by omega) (hr2.later hstA (fun k _ => fps_nil k)) (by simp only [maxLen]; omega) (by omega) rfl (fun u2 wB hstB hnilB => ?_) --ST hstB
  refine Ops.call rfl rfl Try.func14 (by kernel_rfl) (by kernel_rfl) rfl (acts_calls _ (B1 ++ b2) _ (bytes_app hB1b hb2) (by rw [List.length_append]; omega) (rd_app (hstB.rd (i := 2) rfl)) (St.nil _ _)) ?_
  rintro x wZ ⟨Z, rfl, hqZ⟩
  rw [show (B1 ++ b2).length / 4 = q + b2.length / 4 from by rw [List.length_append]; omega] at hqZ
  have hstZ := hstB.back (H1 := []) hqZ
  obtain ⟨AZ, cZ, rfl, hcZ, hpZ⟩ := (hstZ.rd (i := 0) rfl).shape
  refine ⟨_, rfl, ?_⟩ --ST hstZ
  refine Ops.assign rfl rfl ?_
  refine Ops.nil ?_
  refine Run.seq ?_
  refine Run.seq ?_
  refine Run.region ?_
  refine Ops.move rfl rfl ?_
  refine Ops.len rfl rfl rfl Try.underlying24 rfl ?_
  refine Ops.move rfl rfl ?_
  refine Ops.len rfl rfl rfl Try.underlying24 rfl ?_
  refine Ops.move rfl rfl ?_
  refine Ops.len rfl rfl rfl Try.underlying24 rfl ?_
  first | refine Ops.addI rfl rfl rfl (by omega) (by omega) ?_ | refine Ops.add rfl rfl rfl ?_
  refine Ops.neq rfl rfl rfl ?_
  refine Ops.nil ?_
  refine Run.condF rfl ((by simp)) ?_
  refine Run.skip ?_
  refine Run.seq ?_
  refine Run.seq ?_
  refine Run.region ?_
  refine Ops.move rfl rfl ?_
  refine Ops.len rfl rfl rfl Try.underlying24 rfl ?_
  refine Ops.move rfl rfl ?_
  refine Ops.nil ?_
  refine Run.block ?_
  refine Run.sub (e' := [(5, .slice AX q cX), (6, .slice AY (b2.length / 4) cY), (7, .slice AZ (q + b2.length / 4) cZ), (35, .int .i64 ((q + b2.length / 4 : Nat) : Int)), (36, .int .i64 0)]) (subB_spec ⟨rfl, rfl, rfl, rfl, rfl, trivial⟩) ?_
  refine Run.loop (fun fuel e' w' => ∃ i : Nat, e' = [(5, .slice AX q cX), (6, .slice AY (b2.length / 4) cY), (7, .slice AZ (q + b2.length / 4) cZ), (35, .int .i64 ((q + b2.length / 4 : Nat) : Int)), (36, .int .i64 (i : Int))] ∧ i ≤ q + b2.length / 4 ∧ fuel = q + b2.length / 4 - i ∧ St w (fps []) [orow 32 11 (.slice AZ (q + b2.length / 4) cZ) (q + b2.length / 4) (actsL (q + b2.length / 4) (B1 ++ b2)), orow 32 11 (.slice AY (b2.length / 4) cY) (b2.length / 4) (actsL (b2.length / 4) b2), orow 32 11 (.slice AX (q) cX) (q) (actsL q B1)] w') (q + b2.length / 4) ⟨0, rfl, by omega, by omega, hstZ.sub (List.Sublist.cons_cons _ (List.Sublist.cons_cons _ (List.Sublist.cons_cons _ (List.nil_sublist _))))⟩ ?_
  rintro fuel e' w4 ⟨i, rfl, hi, rfl, hst4⟩ --ST hst4
  refine Run.seq ?_
  refine Run.region ?_
  refine Ops.lss rfl rfl rfl ?_
  refine Ops.nil ?_
  refine Run.seq ?_
  refine Run.cond rfl (fun hc37 => ?_) (fun hc37 => ?_)
  · skip
    have hlt : i < q + b2.length / 4 := by have := of_decide_eq_true hc37; omega
    obtain ⟨gZ, oZ, hgZ⟩ := hpZ (by omega)
    obtain ⟨k, y, x2, e0, x4, x5, x6, x7, x8, x9, x10, hone⟩ := oneAt_any ((B1 ++ b2).drop (4 * i))
    have hatZ : ((actsL (q + b2.length / 4) (B1 ++ b2)).drop (i * 11)).take 11 = [.int .i64 k, .int .i64 y, .int .i64 x2, .int .i64 e0, .int .i64 x4, .int .i64 x5, .int .i64 x6, .int .i64 x7, .string x8, .string x9, .string x10] := by rw [actsL_at _ hlt]; exact hone
    refine Run.skip ?_
    refine Run.seq ?_
    refine Run.block ?_
    refine Run.seq ?_
    refine Run.region ?_
    refine Ops.move rfl rfl ?_
    refine Ops.assign rfl rfl ?_
    refine Ops.nil ?_
    refine Run.seq ?_
    rcases Nat.lt_or_ge i q with hl | hl
    · skip
      obtain ⟨gX, oX, hgX⟩ := hpX (by omega)
      have hatX : ((actsL q B1).drop (i * 11)).take 11 = [.int .i64 k, .int .i64 y, .int .i64 x2, .int .i64 e0, .int .i64 x4, .int .i64 x5, .int .i64 x6, .int .i64 x7, .string x8, .string x9, .string x10] := by rw [actsL_at _ hl, ← oneAt_leftd B1 b2 (4 * i) (by omega)]; exact hone
      refine Run.draw (fun w => Rd w 11 (.slice AZ (q + b2.length / 4) cZ) (q + b2.length / 4) (actsL (q + b2.length / 4) (B1 ++ b2)) ∧ Rd w 11 (.slice AX q cX) q (actsL q B1) ∧ Rd w 11 (.slice AY (b2.length / 4) cY) (b2.length / 4) (actsL (b2.length / 4) b2)) none (by kernel_rfl) (fun w1 hw1 => ?_)
      have hst1 := hst4.idle (drew_fr _)
      rw [← hw1] at hst1
      clear hw1
      have hS : (fun w => Rd w 11 (.slice AZ (q + b2.length / 4) cZ) (q + b2.length / 4) (actsL (q + b2.length / 4) (B1 ++ b2)) ∧ Rd w 11 (.slice AX q cX) q (actsL q B1) ∧ Rd w 11 (.slice AY (b2.length / 4) cY) (b2.length / 4) (actsL (b2.length / 4) b2)) w1 := ⟨hst1.rd (i := 0) rfl, hst1.rd (i := 2) rfl, hst1.rd (i := 1) rfl⟩
      refine Any.take 0 rfl rfl rfl rfl (by kernel_rfl) panic_body (Ex.move rfl).s hS ?_
      refine Any.take 1 rfl rfl rfl rfl (by kernel_rfl) panic_body (Ex.move rfl).s hS ?_
      refine Any.take 2 rfl rfl rfl rfl (by kernel_rfl) panic_body (Ex.len rfl rfl rfl Try.underlying24).s hS ?_
      refine Any.take 3 rfl rfl rfl rfl (by kernel_rfl) panic_body (Ex.eq (Ex.lss rfl rfl) (congrArg Value.bool (show _ = true from by first | rfl | (simp; omega)))).s hS ?_
      refine Any.take 4 rfl rfl rfl rfl (by kernel_rfl) panic_body (Ex.move rfl).s hS ?_
      first | refine Any.take 5 rfl rfl rfl rfl (by kernel_rfl) panic_body (ExS.g (Ex.move rfl).s) hS ?_ | refine Any.pass 5 rfl rfl rfl rfl (by kernel_rfl) panic_body hS ?_
      first | refine Any.take 6 rfl rfl rfl rfl (by kernel_rfl) panic_body (ExS.g (Ex.move rfl).s) hS ?_ | refine Any.pass 6 rfl rfl rfl rfl (by kernel_rfl) panic_body hS ?_
      first | refine Any.take 7 rfl rfl rfl rfl (by kernel_rfl) panic_body (ExS.g (Ex.indexAddr (j := i * 11) rfl rfl Try.underlying24 sz32 hgZ (by omega) (by omega) (by first | rfl | (simp; done) | (simp; omega) | omega)).s) hS ?_ | refine Any.pass 7 rfl rfl rfl rfl (by kernel_rfl) panic_body hS ?_
      first | refine Any.take 8 rfl rfl rfl rfl (by kernel_rfl) panic_body (ExS.g (ExS.loadAgg [.int .i64 k, .int .i64 y, .int .i64 x2, .int .i64 e0, .int .i64 x4, .int .i64 x5, .int .i64 x6, .int .i64 x7, .string x8, .string x9, .string x10] rfl Try.underlying32 rfl sz32 rfl (fun w hS => (hgZ ▸ hS.1).elem hatZ))) hS ?_ | refine Any.pass 8 rfl rfl rfl rfl (by kernel_rfl) panic_body hS ?_
      first | refine Any.take 9 rfl rfl rfl rfl (by kernel_rfl) panic_body (ExS.g (Ex.move rfl).s) hS ?_ | refine Any.pass 9 rfl rfl rfl rfl (by kernel_rfl) panic_body hS ?_
      first | refine Any.take 10 rfl rfl rfl rfl (by kernel_rfl) panic_body (ExS.g (Ex.move rfl).s) hS ?_ | refine Any.pass 10 rfl rfl rfl rfl (by kernel_rfl) panic_body hS ?_
      first | refine Any.take 11 rfl rfl rfl rfl (by kernel_rfl) panic_body (ExS.g (Ex.indexAddr (j := i * 11) rfl rfl Try.underlying24 sz32 hgX (by omega) (by omega) (by first | rfl | (simp; done) | (simp; omega) | omega)).s) hS ?_ | refine Any.pass 11 rfl rfl rfl rfl (by kernel_rfl) panic_body hS ?_
      first | refine Any.take 12 rfl rfl rfl rfl (by kernel_rfl) panic_body (ExS.g (ExS.loadAgg [.int .i64 k, .int .i64 y, .int .i64 x2, .int .i64 e0, .int .i64 x4, .int .i64 x5, .int .i64 x6, .int .i64 x7, .string x8, .string x9, .string x10] rfl Try.underlying32 rfl sz32 rfl (fun w hS => (hgX ▸ hS.2.1).elem hatX))) hS ?_ | refine Any.pass 12 rfl rfl rfl rfl (by kernel_rfl) panic_body hS ?_
      first | refine Any.take 13 rfl rfl rfl rfl (by kernel_rfl) panic_body (ExS.g (Ex.neqR rfl rfl (eqr32 9997 _ _ _ _ _ _ _ _ _ _ _) (by kernel_rfl)).s) hS ?_ | refine Any.pass 13 rfl rfl rfl rfl (by kernel_rfl) panic_body hS ?_
      first | refine Any.take 14 rfl rfl rfl rfl (by kernel_rfl) panic_body (Ex.pickT rfl rfl).s hS ?_ | refine Any.take 14 rfl rfl rfl rfl (by kernel_rfl) panic_body (Ex.pickF rfl rfl).s hS ?_
      refine Any.take 15 rfl rfl rfl rfl (by kernel_rfl) panic_body (Ex.move rfl).s hS ?_
      first | refine Any.take 16 rfl rfl rfl rfl (by kernel_rfl) panic_body (ExS.g (Ex.move rfl).s) hS ?_ | refine Any.pass 16 rfl rfl rfl rfl (by kernel_rfl) panic_body hS ?_
      first | refine Any.take 17 rfl rfl rfl rfl (by kernel_rfl) panic_body (ExS.g (Ex.move rfl).s) hS ?_ | refine Any.pass 17 rfl rfl rfl rfl (by kernel_rfl) panic_body hS ?_
      first | refine Any.take 18 rfl rfl rfl rfl (by kernel_rfl) panic_body (ExS.g (Ex.len rfl rfl rfl Try.underlying24).s) hS ?_ | refine Any.pass 18 rfl rfl rfl rfl (by kernel_rfl) panic_body hS ?_
      first | refine Any.take 19 rfl rfl rfl rfl (by kernel_rfl) panic_body (ExS.g (Ex.eq (Ex.geq rfl rfl) (congrArg Value.bool (show _ = false from by first | rfl | (simp; omega)))).s) hS ?_ | refine Any.pass 19 rfl rfl rfl rfl (by kernel_rfl) panic_body hS ?_
      first | refine Any.take 20 rfl rfl rfl rfl (by kernel_rfl) panic_body (ExS.g (Ex.move rfl).s) hS ?_ | refine Any.pass 20 rfl rfl rfl rfl (by kernel_rfl) panic_body hS ?_
      first | refine Any.take 21 rfl rfl rfl rfl (by kernel_rfl) panic_body (ExS.g (Ex.move rfl).s) hS ?_ | refine Any.pass 21 rfl rfl rfl rfl (by kernel_rfl) panic_body hS ?_
      first | refine Any.take 22 rfl rfl rfl rfl (by kernel_rfl) panic_body (ExS.g (Ex.move rfl).s) hS ?_ | refine Any.pass 22 rfl rfl rfl rfl (by kernel_rfl) panic_body hS ?_
      first | refine Any.take 23 rfl rfl rfl rfl (by kernel_rfl) panic_body (ExS.g (Ex.indexAddr (j := i * 11) rfl rfl Try.underlying24 sz32 hgZ (by omega) (by omega) (by first | rfl | (simp; done) | (simp; omega) | omega)).s) hS ?_ | refine Any.pass 23 rfl rfl rfl rfl (by kernel_rfl) panic_body hS ?_
      first | refine Any.take 24 rfl rfl rfl rfl (by kernel_rfl) panic_body (ExS.g (ExS.loadAgg [.int .i64 k, .int .i64 y, .int .i64 x2, .int .i64 e0, .int .i64 x4, .int .i64 x5, .int .i64 x6, .int .i64 x7, .string x8, .string x9, .string x10] rfl Try.underlying32 rfl sz32 rfl (fun w hS => hS))) hS ?_ | refine Any.pass 24 rfl rfl rfl rfl (by kernel_rfl) panic_body hS ?_
      first | refine Any.take 25 rfl rfl rfl rfl (by kernel_rfl) panic_body (ExS.g (Ex.move rfl).s) hS ?_ | refine Any.pass 25 rfl rfl rfl rfl (by kernel_rfl) panic_body hS ?_
      first | refine Any.take 26 rfl rfl rfl rfl (by kernel_rfl) panic_body (ExS.g (Ex.move rfl).s) hS ?_ | refine Any.pass 26 rfl rfl rfl rfl (by kernel_rfl) panic_body hS ?_
      first | refine Any.take 27 rfl rfl rfl rfl (by kernel_rfl) panic_body (ExS.g (Ex.move rfl).s) hS ?_ | refine Any.pass 27 rfl rfl rfl rfl (by kernel_rfl) panic_body hS ?_
      first | refine Any.take 28 rfl rfl rfl rfl (by kernel_rfl) panic_body (ExS.g (Ex.len rfl rfl rfl Try.underlying24).s) hS ?_ | refine Any.pass 28 rfl rfl rfl rfl (by kernel_rfl) panic_body hS ?_
      first | refine Any.take 29 rfl rfl rfl rfl (by kernel_rfl) panic_body (ExS.g (Ex.subI rfl rfl  (by omega) (by omega)).s) hS ?_ | refine Any.take 29 rfl rfl rfl rfl (by kernel_rfl) panic_body (ExS.g (Ex.sub rfl rfl).s) hS ?_ | refine Any.pass 29 rfl rfl rfl rfl (by kernel_rfl) panic_body hS ?_
      first | refine Any.take 30 rfl rfl rfl rfl (by kernel_rfl) panic_body (ExS.g (Ex.indexAddr (j := (i - q) * 11) rfl rfl Try.underlying24 sz32 hgY (by omega) (by omega) (by first | rfl | (simp; done) | (simp; omega) | omega)).s) hS ?_ | refine Any.pass 30 rfl rfl rfl rfl (by kernel_rfl) panic_body hS ?_
      first | refine Any.take 31 rfl rfl rfl rfl (by kernel_rfl) panic_body (ExS.g (ExS.loadAgg [.int .i64 k, .int .i64 y, .int .i64 x2, .int .i64 e0, .int .i64 x4, .int .i64 x5, .int .i64 x6, .int .i64 x7, .string x8, .string x9, .string x10] rfl Try.underlying32 rfl sz32 rfl (fun w hS => hS))) hS ?_ | refine Any.pass 31 rfl rfl rfl rfl (by kernel_rfl) panic_body hS ?_
      first | refine Any.take 32 rfl rfl rfl rfl (by kernel_rfl) panic_body (ExS.g (Ex.neqR rfl rfl (eqr32 9997 _ _ _ _ _ _ _ _ _ _ _) (by kernel_rfl)).s) hS ?_ | refine Any.pass 32 rfl rfl rfl rfl (by kernel_rfl) panic_body hS ?_
      first | refine Any.take 33 rfl rfl rfl rfl (by kernel_rfl) panic_body (ExS.g (Ex.pickT rfl rfl).s) hS ?_ | refine Any.take 33 rfl rfl rfl rfl (by kernel_rfl) panic_body (ExS.g (Ex.pickF rfl rfl).s) hS ?_ | refine Any.pass 33 rfl rfl rfl rfl (by kernel_rfl) panic_body hS ?_
      first | refine Any.take 34 rfl rfl rfl rfl (by kernel_rfl) panic_body (Ex.pickT rfl rfl).s hS ?_ | refine Any.take 34 rfl rfl rfl rfl (by kernel_rfl) panic_body (Ex.pickF rfl rfl).s hS ?_
      refine Any.done (by kernel_rfl) ?_
      refine Run.condF rfl (rfl) ?_
      refine Run.skip ?_
      refine Run.endBlk ?_
      refine Run.region ?_
      first | refine Ops.addI rfl rfl rfl (by omega) (by omega) ?_ | refine Ops.add rfl rfl rfl ?_
      refine Ops.move rfl rfl ?_
      refine Ops.nil ?_
      refine Run.sub (e' := [(5, .slice AX q cX), (6, .slice AY (b2.length / 4) cY), (7, .slice AZ (q + b2.length / 4) cZ), (35, .int .i64 ((q + b2.length / 4 : Nat) : Int)), (36, .int .i64 ((i + 1 : Nat) : Int))]) (subB_spec ⟨rfl, rfl, rfl, rfl, rfl, trivial⟩) (Run.stop ⟨q + b2.length / 4 - (i + 1), by omega, i + 1, rfl, by omega, rfl, hst1⟩)
    · skip
      obtain ⟨gY, oY, hgY⟩ := hpY (by omega)
      have hatY : ((actsL (b2.length / 4) b2).drop ((i - q) * 11)).take 11 = [.int .i64 k, .int .i64 y, .int .i64 x2, .int .i64 e0, .int .i64 x4, .int .i64 x5, .int .i64 x6, .int .i64 x7, .string x8, .string x9, .string x10] := by rw [actsL_at _ (by omega), show 4 * (i - q) = 4 * i - B1.length from by omega, ← oneAt_right B1 b2 (4 * i) (by omega)]; exact hone
      refine Run.draw (fun w => Rd w 11 (.slice AZ (q + b2.length / 4) cZ) (q + b2.length / 4) (actsL (q + b2.length / 4) (B1 ++ b2)) ∧ Rd w 11 (.slice AX q cX) q (actsL q B1) ∧ Rd w 11 (.slice AY (b2.length / 4) cY) (b2.length / 4) (actsL (b2.length / 4) b2)) none (by kernel_rfl) (fun w2 hw2 => ?_)
      have hst2 := hst4.idle (drew_fr _)
      rw [← hw2] at hst2
      clear hw2
      have hS : (fun w => Rd w 11 (.slice AZ (q + b2.length / 4) cZ) (q + b2.length / 4) (actsL (q + b2.length / 4) (B1 ++ b2)) ∧ Rd w 11 (.slice AX q cX) q (actsL q B1) ∧ Rd w 11 (.slice AY (b2.length / 4) cY) (b2.length / 4) (actsL (b2.length / 4) b2)) w2 := ⟨hst2.rd (i := 0) rfl, hst2.rd (i := 2) rfl, hst2.rd (i := 1) rfl⟩
      refine Any.take 0 rfl rfl rfl rfl (by kernel_rfl) panic_body (Ex.move rfl).s hS ?_
      refine Any.take 1 rfl rfl rfl rfl (by kernel_rfl) panic_body (Ex.move rfl).s hS ?_
      refine Any.take 2 rfl rfl rfl rfl (by kernel_rfl) panic_body (Ex.len rfl rfl rfl Try.underlying24).s hS ?_
      refine Any.take 3 rfl rfl rfl rfl (by kernel_rfl) panic_body (Ex.eq (Ex.lss rfl rfl) (congrArg Value.bool (show _ = false from by first | rfl | (simp; omega)))).s hS ?_
      refine Any.take 4 rfl rfl rfl rfl (by kernel_rfl) panic_body (Ex.move rfl).s hS ?_
      first | refine Any.take 5 rfl rfl rfl rfl (by kernel_rfl) panic_body (ExS.g (Ex.move rfl).s) hS ?_ | refine Any.pass 5 rfl rfl rfl rfl (by kernel_rfl) panic_body hS ?_
      first | refine Any.take 6 rfl rfl rfl rfl (by kernel_rfl) panic_body (ExS.g (Ex.move rfl).s) hS ?_ | refine Any.pass 6 rfl rfl rfl rfl (by kernel_rfl) panic_body hS ?_
      first | refine Any.take 7 rfl rfl rfl rfl (by kernel_rfl) panic_body (ExS.g (Ex.indexAddr (j := i * 11) rfl rfl Try.underlying24 sz32 hgZ (by omega) (by omega) (by first | rfl | (simp; done) | (simp; omega) | omega)).s) hS ?_ | refine Any.pass 7 rfl rfl rfl rfl (by kernel_rfl) panic_body hS ?_
      first | refine Any.take 8 rfl rfl rfl rfl (by kernel_rfl) panic_body (ExS.g (ExS.loadAgg [.int .i64 k, .int .i64 y, .int .i64 x2, .int .i64 e0, .int .i64 x4, .int .i64 x5, .int .i64 x6, .int .i64 x7, .string x8, .string x9, .string x10] rfl Try.underlying32 rfl sz32 rfl (fun w hS => hS))) hS ?_ | refine Any.pass 8 rfl rfl rfl rfl (by kernel_rfl) panic_body hS ?_
      first | refine Any.take 9 rfl rfl rfl rfl (by kernel_rfl) panic_body (ExS.g (Ex.move rfl).s) hS ?_ | refine Any.pass 9 rfl rfl rfl rfl (by kernel_rfl) panic_body hS ?_
      first | refine Any.take 10 rfl rfl rfl rfl (by kernel_rfl) panic_body (ExS.g (Ex.move rfl).s) hS ?_ | refine Any.pass 10 rfl rfl rfl rfl (by kernel_rfl) panic_body hS ?_
      first | refine Any.take 11 rfl rfl rfl rfl (by kernel_rfl) panic_body (ExS.g (Ex.indexAddr (j := i * 11) rfl rfl Try.underlying24 sz32 hgX (by omega) (by omega) (by first | rfl | (simp; done) | (simp; omega) | omega)).s) hS ?_ | refine Any.pass 11 rfl rfl rfl rfl (by kernel_rfl) panic_body hS ?_
      first | refine Any.take 12 rfl rfl rfl rfl (by kernel_rfl) panic_body (ExS.g (ExS.loadAgg [.int .i64 k, .int .i64 y, .int .i64 x2, .int .i64 e0, .int .i64 x4, .int .i64 x5, .int .i64 x6, .int .i64 x7, .string x8, .string x9, .string x10] rfl Try.underlying32 rfl sz32 rfl (fun w hS => hS))) hS ?_ | refine Any.pass 12 rfl rfl rfl rfl (by kernel_rfl) panic_body hS ?_
      first | refine Any.take 13 rfl rfl rfl rfl (by kernel_rfl) panic_body (ExS.g (Ex.neqR rfl rfl (eqr32 9997 _ _ _ _ _ _ _ _ _ _ _) (by kernel_rfl)).s) hS ?_ | refine Any.pass 13 rfl rfl rfl rfl (by kernel_rfl) panic_body hS ?_
      first | refine Any.take 14 rfl rfl rfl rfl (by kernel_rfl) panic_body (Ex.pickT rfl rfl).s hS ?_ | refine Any.take 14 rfl rfl rfl rfl (by kernel_rfl) panic_body (Ex.pickF rfl rfl).s hS ?_
      refine Any.take 15 rfl rfl rfl rfl (by kernel_rfl) panic_body (Ex.move rfl).s hS ?_
      first | refine Any.take 16 rfl rfl rfl rfl (by kernel_rfl) panic_body (ExS.g (Ex.move rfl).s) hS ?_ | refine Any.pass 16 rfl rfl rfl rfl (by kernel_rfl) panic_body hS ?_
      first | refine Any.take 17 rfl rfl rfl rfl (by kernel_rfl) panic_body (ExS.g (Ex.move rfl).s) hS ?_ | refine Any.pass 17 rfl rfl rfl rfl (by kernel_rfl) panic_body hS ?_
      first | refine Any.take 18 rfl rfl rfl rfl (by kernel_rfl) panic_body (ExS.g (Ex.len rfl rfl rfl Try.underlying24).s) hS ?_ | refine Any.pass 18 rfl rfl rfl rfl (by kernel_rfl) panic_body hS ?_
      first | refine Any.take 19 rfl rfl rfl rfl (by kernel_rfl) panic_body (ExS.g (Ex.eq (Ex.geq rfl rfl) (congrArg Value.bool (show _ = true from by first | rfl | (simp; omega)))).s) hS ?_ | refine Any.pass 19 rfl rfl rfl rfl (by kernel_rfl) panic_body hS ?_
      first | refine Any.take 20 rfl rfl rfl rfl (by kernel_rfl) panic_body (ExS.g (Ex.move rfl).s) hS ?_ | refine Any.pass 20 rfl rfl rfl rfl (by kernel_rfl) panic_body hS ?_
      first | refine Any.take 21 rfl rfl rfl rfl (by kernel_rfl) panic_body (ExS.g (Ex.move rfl).s) hS ?_ | refine Any.pass 21 rfl rfl rfl rfl (by kernel_rfl) panic_body hS ?_
      first | refine Any.take 22 rfl rfl rfl rfl (by kernel_rfl) panic_body (ExS.g (Ex.move rfl).s) hS ?_ | refine Any.pass 22 rfl rfl rfl rfl (by kernel_rfl) panic_body hS ?_
      first | refine Any.take 23 rfl rfl rfl rfl (by kernel_rfl) panic_body (ExS.g (Ex.indexAddr (j := i * 11) rfl rfl Try.underlying24 sz32 hgZ (by omega) (by omega) (by first | rfl | (simp; done) | (simp; omega) | omega)).s) hS ?_ | refine Any.pass 23 rfl rfl rfl rfl (by kernel_rfl) panic_body hS ?_
      first | refine Any.take 24 rfl rfl rfl rfl (by kernel_rfl) panic_body (ExS.g (ExS.loadAgg [.int .i64 k, .int .i64 y, .int .i64 x2, .int .i64 e0, .int .i64 x4, .int .i64 x5, .int .i64 x6, .int .i64 x7, .string x8, .string x9, .string x10] rfl Try.underlying32 rfl sz32 rfl (fun w hS => (hgZ ▸ hS.1).elem hatZ))) hS ?_ | refine Any.pass 24 rfl rfl rfl rfl (by kernel_rfl) panic_body hS ?_
      first | refine Any.take 25 rfl rfl rfl rfl (by kernel_rfl) panic_body (ExS.g (Ex.move rfl).s) hS ?_ | refine Any.pass 25 rfl rfl rfl rfl (by kernel_rfl) panic_body hS ?_
      first | refine Any.take 26 rfl rfl rfl rfl (by kernel_rfl) panic_body (ExS.g (Ex.move rfl).s) hS ?_ | refine Any.pass 26 rfl rfl rfl rfl (by kernel_rfl) panic_body hS ?_
      first | refine Any.take 27 rfl rfl rfl rfl (by kernel_rfl) panic_body (ExS.g (Ex.move rfl).s) hS ?_ | refine Any.pass 27 rfl rfl rfl rfl (by kernel_rfl) panic_body hS ?_
      first | refine Any.take 28 rfl rfl rfl rfl (by kernel_rfl) panic_body (ExS.g (Ex.len rfl rfl rfl Try.underlying24).s) hS ?_ | refine Any.pass 28 rfl rfl rfl rfl (by kernel_rfl) panic_body hS ?_
      first | refine Any.take 29 rfl rfl rfl rfl (by kernel_rfl) panic_body (ExS.g (Ex.subI rfl rfl  (by omega) (by omega)).s) hS ?_ | refine Any.take 29 rfl rfl rfl rfl (by kernel_rfl) panic_body (ExS.g (Ex.sub rfl rfl).s) hS ?_ | refine Any.pass 29 rfl rfl rfl rfl (by kernel_rfl) panic_body hS ?_
      first | refine Any.take 30 rfl rfl rfl rfl (by kernel_rfl) panic_body (ExS.g (Ex.indexAddr (j := (i - q) * 11) rfl rfl Try.underlying24 sz32 hgY (by omega) (by omega) (by first | rfl | (simp; done) | (simp; omega) | omega)).s) hS ?_ | refine Any.pass 30 rfl rfl rfl rfl (by kernel_rfl) panic_body hS ?_
      first | refine Any.take 31 rfl rfl rfl rfl (by kernel_rfl) panic_body (ExS.g (ExS.loadAgg [.int .i64 k, .int .i64 y, .int .i64 x2, .int .i64 e0, .int .i64 x4, .int .i64 x5, .int .i64 x6, .int .i64 x7, .string x8, .string x9, .string x10] rfl Try.underlying32 rfl sz32 rfl (fun w hS => (hgY ▸ hS.2.2).elem hatY))) hS ?_ | refine Any.pass 31 rfl rfl rfl rfl (by kernel_rfl) panic_body hS ?_
      first | refine Any.take 32 rfl rfl rfl rfl (by kernel_rfl) panic_body (ExS.g (Ex.neqR rfl rfl (eqr32 9997 _ _ _ _ _ _ _ _ _ _ _) (by kernel_rfl)).s) hS ?_ | refine Any.pass 32 rfl rfl rfl rfl (by kernel_rfl) panic_body hS ?_
      first | refine Any.take 33 rfl rfl rfl rfl (by kernel_rfl) panic_body (ExS.g (Ex.pickT rfl rfl).s) hS ?_ | refine Any.take 33 rfl rfl rfl rfl (by kernel_rfl) panic_body (ExS.g (Ex.pickF rfl rfl).s) hS ?_ | refine Any.pass 33 rfl rfl rfl rfl (by kernel_rfl) panic_body hS ?_
      first | refine Any.take 34 rfl rfl rfl rfl (by kernel_rfl) panic_body (Ex.pickT rfl rfl).s hS ?_ | refine Any.take 34 rfl rfl rfl rfl (by kernel_rfl) panic_body (Ex.pickF rfl rfl).s hS ?_
      refine Any.done (by kernel_rfl) ?_
      refine Run.condF rfl (rfl) ?_
      refine Run.skip ?_
      refine Run.endBlk ?_
      refine Run.region ?_
      first | refine Ops.addI rfl rfl rfl (by omega) (by omega) ?_ | refine Ops.add rfl rfl rfl ?_
      refine Ops.move rfl rfl ?_
      refine Ops.nil ?_
      refine Run.sub (e' := [(5, .slice AX q cX), (6, .slice AY (b2.length / 4) cY), (7, .slice AZ (q + b2.length / 4) cZ), (35, .int .i64 ((q + b2.length / 4 : Nat) : Int)), (36, .int .i64 ((i + 1 : Nat) : Int))]) (subB_spec ⟨rfl, rfl, rfl, rfl, rfl, trivial⟩) (Run.stop ⟨q + b2.length / 4 - (i + 1), by omega, i + 1, rfl, by omega, rfl, hst2⟩)
  · skip
    refine Run.exit _ rfl ?_
    refine Run.seq ?_
    refine Run.region ?_
    refine Ops.assign rfl rfl ?_
    refine Ops.nil ?_
    refine Run.ret _ rfl (fun a ha => res1 rfl rfl ha) ?_
    exact ⟨rfl, hst4.sub (List.nil_sublist _)⟩

end Go.Proofs.Ytiijlkebolfcpaa.Script5
