/- Script: walks. -/
import Derived.Test.YtiijlkebolfcpaaScript3
namespace Go.Proofs.Ytiijlkebolfcpaa.Script4
open Go Go.RowKit Go.Proofs.Ytiijlkebolfcpaa.Sx Go.Proofs.Ytiijlkebolfcpaa.Script Go.Proofs.Ytiijlkebolfcpaa.Script2 Go.Proofs.Ytiijlkebolfcpaa.Script3
set_option linter.unusedVariables false
set_option linter.unusedSimpArgs false
theorem sz5 : (Try.prog.info? 5).map (·.size) = some 1 := by kernel_rfl
theorem sz32 : (Try.prog.info? 32).map (·.size) = some 11 := by kernel_rfl
theorem eqr30 (d : Nat) (x0 : Int) (x1 : Int) (x2 : Int) (x3 : ByteArray) (x4 : ByteArray) (x5 : ByteArray) : EqR Try.prog (d + 2) 30 (.agg #[.int .i64 x0, .int .i64 x1, .int .i64 x2, .string x3, .string x4, .string x5]) :=
  EqR.agg Try.underlying30 (by kernel_rfl) ⟨⟨_, fun w => rfl, EqR.int Try.underlying28⟩, ⟨_, fun w => rfl, EqR.int Try.underlying3⟩, ⟨_, fun w => rfl, EqR.int Try.underlying3⟩, ⟨_, fun w => rfl, EqR.str Try.underlying9⟩, ⟨_, fun w => rfl, EqR.str Try.underlying9⟩, ⟨_, fun w => rfl, EqR.str Try.underlying9⟩, trivial⟩
theorem eqr32 (d : Nat) (x0 : Int) (x1 : Int) (x2 : Int) (x3 : Int) (x4 : Int) (x5 : Int) (x6 : Int) (x7 : Int) (x8 : ByteArray) (x9 : ByteArray) (x10 : ByteArray) : EqR Try.prog (d + 3) 32 (.agg #[.int .i64 x0, .int .i64 x1, .int .i64 x2, .int .i64 x3, .int .i64 x4, .int .i64 x5, .int .i64 x6, .int .i64 x7, .string x8, .string x9, .string x10]) :=
  EqR.agg Try.underlying32 (by kernel_rfl) ⟨⟨_, fun w => rfl, EqR.int Try.underlying26⟩, ⟨_, fun w => rfl, EqR.int Try.underlying3⟩, ⟨_, fun w => rfl, EqR.int Try.underlying3⟩, ⟨_, fun w => rfl, EqR.int Try.underlying3⟩, ⟨_, fun w => rfl, EqR.int Try.underlying27⟩, ⟨_, fun w => rfl, EqR.agg Try.underlying30 (by kernel_rfl) ⟨⟨_, fun w => rfl, EqR.int Try.underlying28⟩, ⟨_, fun w => rfl, EqR.int Try.underlying3⟩, ⟨_, fun w => rfl, EqR.int Try.underlying3⟩, ⟨_, fun w => rfl, EqR.str Try.underlying9⟩, ⟨_, fun w => rfl, EqR.str Try.underlying9⟩, ⟨_, fun w => rfl, EqR.str Try.underlying9⟩, trivial⟩⟩, trivial⟩
theorem inf5 : (Try.prog.info? 5).map (fun i => (i.zero, i.size, i.bytes)) = some (some (.int .u8 0), 1, 1) := by kernel_rfl

theorem getD_app (l r : List Int) (k : Nat) (h : k < l.length) : (l ++ r).getD k 0 = l.getD k 0 := by
  rw [List.getD_eq_getElem?_getD, List.getD_eq_getElem?_getD, List.getElem?_append_left h]
theorem oneAt_left (l r : List Int) (h : 4 ≤ l.length) : oneAt (l ++ r) = oneAt l := by
  unfold oneAt
  rw [getD_app l r 0 (by omega), getD_app l r 1 (by omega), getD_app l r 2 (by omega), getD_app l r 3 (by omega)]
theorem actsL_left (l r : List Int) : ∀ n, 4 * n ≤ l.length → actsL n (l ++ r) = actsL n l
  | 0, _ => rfl
  | n + 1, h => by
    rw [actsL_succ, actsL_succ, actsL_left l r n (by omega), List.drop_append_of_le_length (by omega), oneAt_left _ _ (by rw [List.length_drop]; omega)]
theorem oneL_any (a b c d : Int) : ∃ (k y x2 e x4 x5 x6 x7 : Int) (x8 x9 x10 : ByteArray), oneL a b c d = [.int .i64 k, .int .i64 y, .int .i64 x2, .int .i64 e, .int .i64 x4, .int .i64 x5, .int .i64 x6, .int .i64 x7, .string x8, .string x9, .string x10] := by
  unfold oneL cmdL
  repeat' split
  all_goals exact ⟨_, _, _, _, _, _, _, _, _, _, _, rfl⟩
theorem oneAt_any (l : List Int) : ∃ (k y x2 e x4 x5 x6 x7 : Int) (x8 x9 x10 : ByteArray), oneAt l = [.int .i64 k, .int .i64 y, .int .i64 x2, .int .i64 e, .int .i64 x4, .int .i64 x5, .int .i64 x6, .int .i64 x7, .string x8, .string x9, .string x10] := oneL_any _ _ _ _
theorem rd_app {w : World} {v : Value} {xs ys : List Int} (h : Rd w 1 v (0 + xs.length + ys.length) ([] ++ xs.map (Value.int .u8) ++ ys.map (Value.int .u8))) : Rd w 1 v (xs ++ ys).length ((xs ++ ys).map (Value.int .u8)) := by
  rw [List.length_append, List.map_append]
  rw [Nat.zero_add, List.nil_append] at h
  exact h
theorem bytes_app {xs ys : List Int} (h1 : Bytes xs) (h2 : Bytes ys) : Bytes (xs ++ ys) := fun x hx => (List.mem_append.1 hx).elim (h1 x) (h2 x)

set_option maxRecDepth 100000 in
set_option maxHeartbeats 2000000 in
theorem tail_calls (s1 s2 : Value) (b1 b2 : List Int) (w : World) (hb1 : Bytes b1) (hm1 : b1.length ≤ 1048576) (hr1 : Rd w 1 s1 b1.length (b1.map (Value.int .u8))) (hb2 : Bytes b2) (hm2 : b2.length ≤ 1048576) (hr2 : Rd w 1 s2 b2.length (b2.map (Value.int .u8))) :
    Calls Try.prog 5 #[s1, s2] w fun e w' => e = .returned (.bool true) ∧ St w (fps []) [] w' := by
  have hst : St w (fps []) [] w := St.nil _ _
  obtain ⟨A1, c1, rfl, hl1, -⟩ := hr1.shape
  obtain ⟨q, hq0⟩ : ∃ q, b1.length / 4 = q := ⟨_, rfl⟩
  obtain ⟨B1, hB1⟩ : ∃ B, B = b1.take (4 * q) := ⟨_, rfl⟩
  have hB1l : B1.length = 4 * q := by rw [hB1, List.length_take]; omega
  have hB1b : Bytes B1 := fun x hx => hb1 x (List.mem_of_mem_take (hB1 ▸ hx))
  obtain ⟨s1', hs1'⟩ : ∃ s', s' = Value.slice (if c1 = 0 then A1 else A1.map (·.add (0 * 1))) (4 * q) c1 := ⟨_, rfl⟩
  have hR1 : Rd w 1 s1' B1.length (B1.map (Value.int .u8)) := by
    rw [hB1l, hs1', hB1, List.map_take]
    exact hr1.pre _ (by omega) hl1
  have hv1 : Value.slice (if c1 = (0 : Int).toNat then A1 else A1.map (·.add ((0 : Int).toNat * 1))) (((b1.length : Int) / 4 * 4).toNat - (0 : Int).toNat) (c1 - (0 : Int).toNat) = s1' := by
    rw [hs1', show ((b1.length : Int) / 4 * 4).toNat - (0 : Int).toNat = 4 * q from by omega]
    rfl
  obtain ⟨A2, c2, rfl, hl2, -⟩ := hr2.shape
  obtain ⟨B2, hB2⟩ : ∃ B, B = b2.take (min b2.length 3) := ⟨_, rfl⟩
  have hB2l : B2.length = min b2.length 3 := by rw [hB2, List.length_take]; omega
  have hB2b : Bytes B2 := fun x hx => hb2 x (List.mem_of_mem_take (hB2 ▸ hx))
  obtain ⟨s2', hs2'⟩ : ∃ s', s' = Value.slice (if c2 = 0 then A2 else A2.map (·.add (0 * 1))) (min b2.length 3) c2 := ⟨_, rfl⟩
  have hR2 : Rd w 1 s2' B2.length (B2.map (Value.int .u8)) := by
    rw [hB2l, hs2', hB2, List.map_take]
    exact hr2.pre _ (by omega) hl2
  have hv2 : Value.slice (if c2 = (0 : Int).toNat then A2 else A2.map (·.add ((0 : Int).toNat * 1))) ((min (b2.length : Int) 3).toNat - (0 : Int).toNat) (c2 - (0 : Int).toNat) = s2' := by
    rw [hs2', show (min (b2.length : Int) 3).toNat - (0 : Int).toNat = min b2.length 3 from by omega]
    rfl
  refine calls_of_run Try.func5 rfl rfl ?_
  refine Run.seq ?_
  refine Run.region ?_
  refine Ops.assign rfl rfl ?_
  refine Ops.nil ?_
  refine Run.seq ?_
  refine Run.seq ?_
  refine Run.region ?_
  refine Ops.call rfl rfl Try.func13 (by kernel_rfl) (by kernel_rfl) rfl (awake_calls _ (St.nil _ _)) ?_
  rintro x w2 ⟨rfl, hq⟩
  have hst2 := hst.after0 hq
  refine ⟨_, rfl, ?_⟩ --ST hst2
  refine Ops.not rfl rfl ?_
  refine Ops.nil ?_
  refine Run.condF rfl (rfl) ?_
  refine Run.skip ?_
  refine Run.seq ?_
  refine Run.region ?_
  refine Ops.move rfl rfl ?_
  refine Ops.move rfl rfl ?_
  refine Ops.len rfl rfl rfl Try.underlying22 rfl ?_
  first | refine Ops.quoI rfl rfl rfl (by omega) (by omega) (by omega) ?_ | refine Ops.quo rfl rfl rfl (by omega) ?_
  first | refine Ops.mulI rfl rfl rfl (by omega) (by omega) ?_ | refine Ops.mul rfl rfl rfl ?_
  refine Ops.cut (i := 0) (j := (b1.length : Int) / 4 * 4) rfl Try.underlying22 sz5 rfl rfl (by omega) (by omega) (by omega) rfl ?_
  refine Ops.re 15 rfl hv1 ?_
  refine Ops.assign rfl rfl ?_
  refine Ops.nil ?_
  refine Run.seq ?_
  refine Run.region ?_
  refine Ops.move rfl rfl ?_
  refine Ops.call rfl rfl Try.func14 (by kernel_rfl) (by kernel_rfl) rfl (acts_calls _ (B1) _ (hB1b) (by omega) (hR1.later hst2 (fun k _ => fps_nil k)) (St.nil _ _)) ?_
  rintro x wX ⟨X, rfl, hqX⟩
  rw [show B1.length / 4 = q from by omega] at hqX
  have hstX := hst2.back (H1 := []) hqX
  obtain ⟨AX, cX, rfl, hcX, hpX⟩ := (hstX.rd (i := 0) rfl).shape
  refine ⟨_, rfl, ?_⟩ --ST hstX
  refine Ops.assign rfl rfl ?_
  refine Ops.nil ?_
  refine Run.seq ?_
  refine Run.draw (fun _ => True) none (by kernel_rfl) (fun w1 hw1 => ?_)
  have hst1 := hstX.idle (drew_fr _)
  rw [← hw1] at hst1
  clear hw1
  have hstP := hst1.push (Fr.refl _ _) (own_nil 5 1 _) (fun k hk => by cases hk) --ST hstP
  have hS : (fun _ => True) w1 := trivial
  refine Any.take 0 rfl rfl rfl rfl (by kernel_rfl) panic_body (Ex.move rfl).s hS ?_
  refine Any.take 2 rfl rfl rfl rfl (by kernel_rfl) panic_body (Ex.move rfl).s hS ?_
  refine Any.take 3 rfl rfl rfl rfl (by kernel_rfl) panic_body (Ex.move rfl).s hS ?_
  refine Any.take 4 rfl rfl rfl rfl (by kernel_rfl) panic_body (Ex.len rfl rfl rfl Try.underlying22).s hS ?_
  refine Any.take 5 rfl rfl rfl rfl (by kernel_rfl) panic_body (Ex.min2 rfl rfl rfl).s hS ?_
  refine Any.take 6 rfl rfl rfl rfl (by kernel_rfl) panic_body (Ex.eq (Ex.cut (i := 0) (j := min (b2.length : Int) 3) rfl Try.underlying22 sz5 rfl rfl (by omega) (by omega) (by omega)) hv2).s hS ?_
  refine Any.one 1 (by kernel_rfl) rfl rfl (One.of_ops rfl ?_)
  refine Ops.append 1 hstP rfl rfl rfl rfl rfl Try.underlying22 inf5 rfl (by omega) (hR1.later hstP (fun k _ => fps_nil k)) (by simp only [maxLen]; omega) (by omega) rfl (fun u1 wA hstA hnilA => Ops.stop ⟨.inr trivial, ?_⟩)
  have hS : (fun _ : World => True) wA := trivial --ST hstA
  refine Any.one 7 (by kernel_rfl) rfl rfl (One.of_ops rfl ?_)
  refine Ops.append 1 hstA rfl rfl rfl rfl rfl Try.underlying22 inf5 rfl (by omega) (hR2.later hstA (fun k _ => fps_nil k)) (by simp only [maxLen]; omega) (by omega) rfl (fun u2 wB hstB hnilB => Ops.stop ⟨.inr trivial, ?_⟩)
  have hS : (fun _ : World => True) wB := trivial --ST hstB
  refine Any.one 8 (by kernel_rfl) rfl rfl (One.of_ops rfl ?_)
  refine Ops.call rfl rfl Try.func14 (by kernel_rfl) (by kernel_rfl) rfl (acts_calls _ (B1 ++ B2) _ (bytes_app hB1b hB2b) (by rw [List.length_append]; omega) (rd_app (hstB.rd (i := 1) rfl)) (St.nil _ _)) ?_
  rintro x wY ⟨Y, rfl, hqY⟩
  rw [show (B1 ++ B2).length / 4 = q from by rw [List.length_append]; omega, actsL_left B1 B2 q (by omega)] at hqY
  have hstY := hstB.back (H1 := []) hqY
  obtain ⟨AY, cY, rfl, hcY, hpY⟩ := (hstY.rd (i := 0) rfl).shape
  have hS : (fun _ : World => True) wY := trivial
  refine ⟨_, rfl, Ops.stop ⟨.inr trivial, ?_⟩⟩ --ST hstY
  refine Any.take 9 rfl rfl rfl rfl (by kernel_rfl) panic_body (Ex.assign rfl).s hS ?_
  refine Any.done (by kernel_rfl) ?_
  refine Run.seq ?_
  refine Run.seq ?_
  refine Run.region ?_
  refine Ops.move rfl rfl ?_
  refine Ops.len rfl rfl rfl Try.underlying24 rfl ?_
  refine Ops.move rfl rfl ?_
  refine Ops.len rfl rfl rfl Try.underlying24 rfl ?_
  refine Ops.neq rfl rfl rfl ?_
  refine Ops.nil ?_
  refine Run.condF rfl ((by simp)) ?_
  refine Run.skip ?_
  refine Run.seq ?_
  refine Run.seq ?_
  refine Run.region ?_
  refine Ops.move rfl rfl ?_
  refine Ops.len rfl rfl rfl Try.underlying24 rfl ?_
  refine Ops.move rfl rfl ?_
  refine Ops.nil ?_
  refine Run.block ?_
  refine Run.sub (e' := [(5, .slice AX q cX), (6, .slice AY q cY), (33, .int .i64 (q : Int)), (34, .int .i64 0)]) (subB_spec ⟨rfl, rfl, rfl, rfl, trivial⟩) ?_
  refine Run.loop (fun fuel e' w' => ∃ i : Nat, e' = [(5, .slice AX q cX), (6, .slice AY q cY), (33, .int .i64 (q : Int)), (34, .int .i64 (i : Int))] ∧ i ≤ q ∧ fuel = q - i ∧ St w (fps []) [orow 32 11 (.slice AY (q) cY) (q) (actsL q B1), orow 32 11 (.slice AX (q) cX) (q) (actsL q B1)] w') q ⟨0, rfl, by omega, by omega, hstY.sub (List.Sublist.cons_cons _ (List.Sublist.cons_cons _ (List.nil_sublist _)))⟩ ?_
  rintro fuel e' w4 ⟨i, rfl, hi, rfl, hst4⟩ --ST hst4
  refine Run.seq ?_
  refine Run.region ?_
  refine Ops.lss rfl rfl rfl ?_
  refine Ops.nil ?_
  refine Run.seq ?_
  refine Run.cond rfl (fun hc35 => ?_) (fun hc35 => ?_)
  · skip
    have hlt : i < q := by have := of_decide_eq_true hc35; omega
    obtain ⟨gX, oX, rfl⟩ := hpX (by omega)
    obtain ⟨gY, oY, rfl⟩ := hpY (by omega)
    obtain ⟨k, y, x2, e0, x4, x5, x6, x7, x8, x9, x10, hone⟩ := oneAt_any (B1.drop (4 * i))
    have hat : ((actsL q B1).drop (i * 11)).take 11 = [.int .i64 k, .int .i64 y, .int .i64 x2, .int .i64 e0, .int .i64 x4, .int .i64 x5, .int .i64 x6, .int .i64 x7, .string x8, .string x9, .string x10] := by rw [actsL_at B1 hlt]; exact hone
    refine Run.skip ?_
    refine Run.seq ?_
    refine Run.block ?_
    refine Run.seq ?_
    refine Run.region ?_
    refine Ops.move rfl rfl ?_
    refine Ops.assign rfl rfl ?_
    refine Ops.nil ?_
    refine Run.seq ?_
    refine Run.draw (fun w => Rd w 11 (.slice (some ⟨gX, oX, none⟩) q cX) q (actsL q B1) ∧ Rd w 11 (.slice (some ⟨gY, oY, none⟩) q cY) q (actsL q B1)) none (by kernel_rfl) (fun w2 hw2 => ?_)
    have hst2 := hst4.idle (drew_fr _)
    rw [← hw2] at hst2
    clear hw2
    have hS : (fun w => Rd w 11 (.slice (some ⟨gX, oX, none⟩) q cX) q (actsL q B1) ∧ Rd w 11 (.slice (some ⟨gY, oY, none⟩) q cY) q (actsL q B1)) w2 := ⟨hst2.rd (i := 1) rfl, hst2.rd (i := 0) rfl⟩
    refine Any.take 0 rfl rfl rfl rfl (by kernel_rfl) panic_body (Ex.move rfl).s hS ?_
    refine Any.take 1 rfl rfl rfl rfl (by kernel_rfl) panic_body (Ex.move rfl).s hS ?_
    refine Any.take 2 rfl rfl rfl rfl (by kernel_rfl) panic_body (Ex.indexAddr (j := i * 11) rfl rfl Try.underlying24 sz32 rfl (by omega) (by omega) (by first | rfl | (simp; done) | (simp; omega) | omega)).s hS ?_
    refine Any.take 3 rfl rfl rfl rfl (by kernel_rfl) panic_body (ExS.loadAgg [.int .i64 k, .int .i64 y, .int .i64 x2, .int .i64 e0, .int .i64 x4, .int .i64 x5, .int .i64 x6, .int .i64 x7, .string x8, .string x9, .string x10] rfl Try.underlying32 rfl sz32 rfl (fun w hS => hS.1.elem hat)) hS ?_
    refine Any.take 4 rfl rfl rfl rfl (by kernel_rfl) panic_body (Ex.move rfl).s hS ?_
    refine Any.take 5 rfl rfl rfl rfl (by kernel_rfl) panic_body (Ex.move rfl).s hS ?_
    refine Any.take 6 rfl rfl rfl rfl (by kernel_rfl) panic_body (Ex.indexAddr (j := i * 11) rfl rfl Try.underlying24 sz32 rfl (by omega) (by omega) (by first | rfl | (simp; done) | (simp; omega) | omega)).s hS ?_
    refine Any.take 7 rfl rfl rfl rfl (by kernel_rfl) panic_body (ExS.loadAgg [.int .i64 k, .int .i64 y, .int .i64 x2, .int .i64 e0, .int .i64 x4, .int .i64 x5, .int .i64 x6, .int .i64 x7, .string x8, .string x9, .string x10] rfl Try.underlying32 rfl sz32 rfl (fun w hS => hS.2.elem hat)) hS ?_
    refine Any.take 8 rfl rfl rfl rfl (by kernel_rfl) panic_body (Ex.neqR rfl rfl (eqr32 9997 _ _ _ _ _ _ _ _ _ _ _) (by kernel_rfl)).s hS ?_
    refine Any.done (by kernel_rfl) ?_
    refine Run.condF rfl (rfl) ?_
    refine Run.skip ?_
    refine Run.endBlk ?_
    refine Run.region ?_
    first | refine Ops.addI rfl rfl rfl (by omega) (by omega) ?_ | refine Ops.add rfl rfl rfl ?_
    refine Ops.move rfl rfl ?_
    refine Ops.nil ?_
    refine Run.sub (e' := [(5, .slice (some ⟨gX, oX, none⟩) q cX), (6, .slice (some ⟨gY, oY, none⟩) q cY), (33, .int .i64 (q : Int)), (34, .int .i64 ((i + 1 : Nat) : Int))]) (subB_spec ⟨rfl, rfl, rfl, rfl, trivial⟩) (Run.stop ⟨q - (i + 1), by omega, i + 1, rfl, by omega, rfl, hst2⟩)
  · skip
    refine Run.exit _ rfl ?_
    refine Run.seq ?_
    refine Run.region ?_
    refine Ops.assign rfl rfl ?_
    refine Ops.nil ?_
    refine Run.ret _ rfl (fun a ha => res1 rfl rfl ha) ?_
    exact ⟨rfl, hst4.sub (List.nil_sublist _)⟩

end Go.Proofs.Ytiijlkebolfcpaa.Script4
