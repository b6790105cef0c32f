/- Net: walks. -/
import Derived.Test.YtiijlkebolfcpaaNet1
import Derived.Test.YtiijlkebolfcpaaSxI
namespace Go.Proofs.Ytiijlkebolfcpaa.Net2
open Go Go.RowKit Go.Proofs.Ytiijlkebolfcpaa.Sx Go.Proofs.Ytiijlkebolfcpaa.Net
set_option linter.unusedVariables false
set_option linter.unusedSimpArgs false
theorem sz3 : (Try.prog.info? 3).map (·.size) = some 1 := by kernel_rfl
theorem sz9 : (Try.prog.info? 9).map (·.size) = some 1 := by kernel_rfl
theorem sz41 : (Try.prog.info? 41).map (·.size) = some 1 := by kernel_rfl
theorem sz56 : (Try.prog.info? 56).map (·.size) = some 1 := by kernel_rfl
theorem zr3 : (Try.prog.info? 3).map (·.zero) = some (some (.int .i64 0)) := by kernel_rfl
theorem zr9 : (Try.prog.info? 9).map (·.zero) = some (some (.string ⟨#[]⟩)) := by kernel_rfl

/-- One more message: of more than may wait, the oldest is lost. -/
def snd1 {α : Type} (p : List α × Int) (x : α) : List α × Int := if p.1.length = 64 then (p.1.tail ++ [x], p.2 + 1) else (p.1 ++ [x], p.2)
def snds {α : Type} (p : List α × Int) (ms : List α) : List α × Int := ms.foldl snd1 p
theorem snd1_bd {α : Type} (p : List α × Int) (x : α) (h : p.1.length ≤ 64) : (snd1 p x).1.length ≤ 64 ∧ p.2 ≤ (snd1 p x).2 ∧ (snd1 p x).2 ≤ p.2 + 1 := by
  unfold snd1
  split
  · simp; omega
  · simp; omega
theorem snds_bd {α : Type} : ∀ (ms : List α) (p : List α × Int), p.1.length ≤ 64 → (snds p ms).1.length ≤ 64 ∧ p.2 ≤ (snds p ms).2 ∧ (snds p ms).2 ≤ p.2 + ms.length
  | [], p, h => ⟨h, Int.le_refl _, by simp [snds]⟩
  | m :: r, p, h => by
    have h1 := snd1_bd p m h
    have h2 := snds_bd r (snd1 p m) h1.1
    have h3 : snds p (m :: r) = snds (snd1 p m) r := rfl
    rw [h3]
    refine ⟨h2.1, by omega, ?_⟩
    simp only [List.length_cons]
    omega
theorem snds_succ {α : Type} {p : List α × Int} {ms : List α} {i : Nat} {m : α} (h : ms[i]? = some m) : snds p (ms.take (i + 1)) = snd1 (snds p (ms.take i)) m := by
  unfold snds
  rw [List.take_add_one, h, List.foldl_append]
  rfl


theorem iGrow {w0 w : World} {F0 : Nat → Prop} {b : Nat} {v : Value} {L : List Int} {m : Int} {lost : Int} {X : List Res} (h : St w0 F0 ([blk b [v, .int .i64 lost] 43, orow 3 1 v (L.length + 1) (L.map (Value.int .i64) ++ [(Value.int .i64) m])] ++ X) w) : St w0 F0 (iNet b v (L ++ [m]) lost) w := by
  have h1 := h.sub (List.sublist_append_left _ _)
  unfold iNet
  rw [List.length_append, List.map_append]
  exact h1

set_option maxRecDepth 100000 in
set_option maxHeartbeats 2000000 in
theorem iDrop0 (b : Nat) (v : Value) (lost k : Int) (w : World) (hst : Owns (iNet b v [] lost) w) :
    Calls Try.prog 21 #[.pointer (some ⟨b, 0, none⟩), .int .i64 k] w fun e w' => e = .returned (.bool false) ∧ w' = w := by
  refine calls_of_run Try.func21 rfl rfl ?_
  refine Run.seq ?_
  refine Run.region ?_
  refine Ops.assign rfl rfl ?_
  refine Ops.nil ?_
  refine Run.seq ?_
  refine Run.region ?_
  refine Ops.move rfl rfl ?_
  refine Ops.move rfl rfl ?_
  refine Ops.call rfl rfl Try.func19 (by kernel_rfl) (by kernel_rfl) rfl (iTake0 b v lost k w hst) ?_
  rintro x w1 ⟨rfl, rfl⟩
  refine ⟨_, rfl, ?_⟩
  refine Ops.move rfl rfl ?_
  refine Ops.extract rfl rfl rfl ?_
  refine Ops.extract rfl rfl rfl ?_
  refine Ops.assign rfl rfl ?_
  refine Ops.assign rfl rfl ?_
  refine Ops.nil ?_
  refine Run.seq ?_
  refine Run.seq ?_
  refine Run.region ?_
  refine Ops.move rfl rfl ?_
  refine Ops.nil ?_
  refine Run.condF rfl (rfl) ?_
  refine Run.skip ?_
  refine Run.seq ?_
  refine Run.region ?_
  refine Ops.move rfl rfl ?_
  refine Ops.assign rfl rfl ?_
  refine Ops.nil ?_
  refine Run.ret _ rfl (fun a ha => res1 rfl rfl ha) ?_
  exact ⟨rfl, rfl⟩

set_option maxRecDepth 100000 in
set_option maxHeartbeats 2000000 in
theorem iDrop (b : Nat) (v : Value) (xs : List Int) (lost k : Int) (i : Nat) (x : Int) (w : World) (hl2 : xs.length ≤ 1000) (hi : k % xs.length = i) (hx : xs[i]? = some x) (hlo : 0 ≤ lost ∧ lost ≤ 4000000000) (hst : Owns (iNet b v xs lost) w) :
    Calls Try.prog 21 #[.pointer (some ⟨b, 0, none⟩), .int .i64 k] w fun e w' => e = .returned (.bool true) ∧ ∃ v', St w (fps (iNet b v xs lost)) (iNet b v' (xs.eraseIdx i) (lost + 1)) w' := by
  refine calls_of_run Try.func21 rfl rfl ?_
  refine Run.seq ?_
  refine Run.region ?_
  refine Ops.assign rfl rfl ?_
  refine Ops.nil ?_
  refine Run.seq ?_
  refine Run.region ?_
  refine Ops.move rfl rfl ?_
  refine Ops.move rfl rfl ?_
  refine Ops.call rfl rfl Try.func19 (by kernel_rfl) (by kernel_rfl) rfl (iTake b v xs lost k i x w hl2 hi hx hst) ?_
  rintro x w1 ⟨rfl, v', hst1⟩
  refine ⟨_, rfl, ?_⟩ --ST hst1
  refine Ops.move rfl rfl ?_
  refine Ops.extract rfl rfl rfl ?_
  refine Ops.extract rfl rfl rfl ?_
  refine Ops.assign rfl rfl ?_
  refine Ops.assign rfl rfl ?_
  refine Ops.nil ?_
  refine Run.seq ?_
  refine Run.seq ?_
  refine Run.region ?_
  refine Ops.move rfl rfl ?_
  refine Ops.nil ?_
  refine Run.condT rfl (rfl) ?_
  refine Run.region ?_
  refine Ops.move rfl rfl ?_
  refine Ops.nilCheck rfl rfl ?_
  refine Ops.fieldAddr rfl Try.underlying43 rfl sz3 rfl ?_
  refine Ops.load rfl Try.underlying3 rfl (by first | exact hst1.cell (i := 0) rfl rfl | exact hst1.cell (i := 1) rfl rfl | exact hst1.cell (i := 2) rfl rfl | assumption) rfl ?_
  first | refine Ops.addI rfl rfl rfl (by omega) (by omega) ?_ | refine Ops.add rfl rfl rfl ?_
  refine Ops.nilCheck rfl rfl ?_
  refine Ops.fieldAddr rfl Try.underlying43 rfl sz3 rfl ?_
  first | refine Ops.store 0 [_] hst1 rfl rfl rfl rfl sz3 rfl (by simp [Value.oneCell']) (by simp) (fun w1 hst1 => ?_) | refine Ops.store 1 [_] hst1 rfl rfl rfl rfl sz3 rfl (by simp [Value.oneCell']) (by simp) (fun w1 hst1 => ?_) | refine Ops.store 2 [_] hst1 rfl rfl rfl rfl sz3 rfl (by simp [Value.oneCell']) (by simp) (fun w1 hst1 => ?_)
  refine Ops.nil ?_
  refine Run.seq ?_
  refine Run.region ?_
  refine Ops.move rfl rfl ?_
  refine Ops.assign rfl rfl ?_
  refine Ops.nil ?_
  refine Run.ret _ rfl (fun a ha => res1 rfl rfl ha) ?_
  exact ⟨rfl, v', hst1⟩

set_option maxRecDepth 100000 in
set_option maxHeartbeats 2000000 in
theorem iSend (b : Nat) (v s : Value) (xs ms : List Int) (lost : Int) (w : World) (h64 : xs.length ≤ 64) (hm : ms.length ≤ 1000000) (hlo : 0 ≤ lost ∧ lost ≤ 1000000000) (hr : Rd w 1 s ms.length (ms.map (Value.int .i64))) (hsep : ∀ k, s.ownBlock = some k → ¬ fps (iNet b v xs lost) k) (hst : Owns (iNet b v xs lost) w) :
    Calls Try.prog 18 #[.pointer (some ⟨b, 0, none⟩), s] w fun e w' => e = .returned (.tuple #[]) ∧ ∃ v', St w (fps (iNet b v xs lost)) (iNet b v' (snds (xs, lost) ms).1 (snds (xs, lost) ms).2) w' := by
  obtain ⟨A, c, rfl, hc, hpos⟩ := hr.shape
  refine calls_of_run Try.func18 rfl rfl ?_
  refine Run.seq ?_
  refine Run.region ?_
  refine Ops.move rfl rfl ?_
  refine Ops.len rfl rfl rfl Try.underlying41 rfl ?_
  refine Ops.move rfl rfl ?_
  refine Ops.nil ?_
  refine Run.block ?_
  refine Run.sub (e' := [(0, .pointer (some ⟨b, 0, none⟩)), (6, .slice A ms.length c), (7, .int .i64 (ms.length : Int)), (8, .int .i64 0)]) (subB_spec ⟨rfl, rfl, rfl, rfl, trivial⟩) ?_
  refine Run.loop (fun fuel e' w' => ∃ (i : Nat) (u : Value), e' = [(0, .pointer (some ⟨b, 0, none⟩)), (6, .slice A ms.length c), (7, .int .i64 (ms.length : Int)), (8, .int .i64 (i : Int))] ∧ i ≤ ms.length ∧ fuel = ms.length - i ∧ St w (fps (iNet b v xs lost)) (iNet b u (snds (xs, lost) (ms.take i)).1 (snds (xs, lost) (ms.take i)).2) w') ms.length ⟨0, v, rfl, by omega, by omega, hst⟩ ?_
  rintro fuel e' w4 ⟨i, u, rfl, hi, rfl, hst4⟩ --ST hst4
  refine Run.seq ?_
  refine Run.region ?_
  refine Ops.lss rfl rfl rfl ?_
  refine Ops.nil ?_
  refine Run.seq ?_
  refine Run.cond rfl (fun hc9 => ?_) (fun hc9 => ?_)
  · skip
    have hlt : i < ms.length := by have := of_decide_eq_true hc9; omega
    obtain ⟨g, o, rfl⟩ := hpos (by omega)
    obtain ⟨m, hmi⟩ : ∃ m, ms[i]? = some m := ⟨_, List.getElem?_eq_getElem hlt⟩
    have hnx := snds_succ (p := (xs, lost)) hmi
    have hbd := snds_bd (ms.take i) (xs, lost) h64
    obtain ⟨⟨ys, lo⟩, hp⟩ : ∃ p, p = snds (xs, lost) (ms.take i) := ⟨_, rfl⟩
    rw [← hp] at hst4 hnx hbd
    have hbd1 : ys.length ≤ 64 := hbd.1
    have hbd2 : 0 ≤ lo := Int.le_trans hlo.1 hbd.2.1
    have hbd3 : lo ≤ 1000000000 + (ms.take i).length := Int.le_trans hbd.2.2 (by simp only []; omega)
    have htl : (ms.take i).length ≤ 1000000 := by rw [List.length_take]; omega
    have hst4 : St w (fps (iNet b v xs lost)) (iNet b u ys lo) w4 := hst4
    obtain ⟨A2, c2, rfl, hc2, hpos2⟩ := (hst4.rd (i := 1) rfl).shape
    refine Run.skip ?_
    refine Run.seq ?_
    refine Run.block ?_
    refine Run.seq ?_
    refine Run.region ?_
    refine Ops.indexAddr (j := i) rfl rfl Try.underlying41 sz3 rfl (by omega) (by omega) (by first | rfl | (simp; done) | (simp; omega) | omega) rfl ?_
    refine Ops.load rfl Try.underlying3 rfl ((hr.later hst4 hsep).cell (j := i) (by rw [List.getElem?_map, hmi]; rfl)) rfl ?_
    refine Ops.assign rfl rfl ?_
    refine Ops.nil ?_
    refine Run.seq ?_
    refine Run.seq ?_
    refine Run.region ?_
    refine Ops.move rfl rfl ?_
    refine Ops.nilCheck rfl rfl ?_
    refine Ops.fieldAddr rfl Try.underlying43 rfl sz41 rfl ?_
    refine Ops.load rfl Try.underlying41 rfl (by first | exact hst4.cell (i := 0) rfl rfl | exact hst4.cell (i := 1) rfl rfl | exact hst4.cell (i := 2) rfl rfl | assumption) rfl ?_
    refine Ops.len rfl rfl rfl Try.underlying41 rfl ?_
    refine Ops.eql rfl rfl rfl ?_
    refine Ops.nil ?_
    refine Run.cond rfl (fun hc17 => ?_) (fun hc17 => ?_)
    · skip
      have hy64z : (ys.length : Int) = 64 := by simpa using hc17
      have hy64 : ys.length = 64 := by omega
      obtain ⟨y0, hy0⟩ : ∃ y0, ys[0]? = some y0 := ⟨_, List.getElem?_eq_getElem (by omega)⟩
      have hel : (ys.eraseIdx 0).length ≤ 64 := Nat.le_trans (List.length_eraseIdx_le _ _) hbd1
      refine Run.region ?_
      refine Ops.move rfl rfl ?_
      refine Ops.call rfl rfl Try.func21 (by kernel_rfl) (by kernel_rfl) rfl (iDrop b _ ys lo 0 0 y0 w4 (by omega) (by simp) hy0 (by omega) hst4.owns) ?_
      rintro x w5 ⟨rfl, u2, hq⟩
      have hst5 := hst4.whole hq
      obtain ⟨A3, c3, rfl, hc3, hpos3⟩ := (hst5.rd (i := 1) rfl).shape
      refine ⟨_, rfl, ?_⟩ --ST hst5
      refine Ops.nil ?_
      refine Run.region ?_
      refine Ops.move rfl rfl ?_
      refine Ops.move rfl rfl ?_
      refine Ops.nilCheck rfl rfl ?_
      refine Ops.fieldAddr rfl Try.underlying43 rfl sz41 rfl ?_
      refine Ops.load rfl Try.underlying41 rfl (by first | exact hst5.cell (i := 0) rfl rfl | exact hst5.cell (i := 1) rfl rfl | exact hst5.cell (i := 2) rfl rfl | assumption) rfl ?_
      refine Ops.move rfl rfl ?_
      refine Ops.buildSlice [(Value.int .i64) m] hst5 rfl Try.underlying41 sz3 zr3 rfl rfl (by kernel_rfl) rfl (fun g1 w1 hst1 hg1 => ?_)
      refine Ops.append 1 hst1 rfl rfl rfl rfl rfl Try.underlying41 iinfo rfl (by omega) (Rd_of_blk (m := 1) hst1 (i := 2) rfl rfl (by simp [Value.oneCell'])) (by simp only [maxLen]; omega) (by omega) rfl (fun v' w6 hst6 hnil => ?_)
      have hv' := vof (hst6.get (i := 1) rfl) --ST hst6
      refine Ops.nilCheck rfl rfl ?_
      refine Ops.fieldAddr rfl Try.underlying43 rfl sz41 rfl ?_
      refine Ops.store 0 [v'] hst6 rfl rfl rfl (vcells v' hv') sz41 rfl (vone v' hv') (by simp) (fun w7 hst7 => ?_) --ST hst7
      refine Ops.nil ?_
      refine Run.endBlk ?_
      refine Run.region ?_
      first | refine Ops.addI rfl rfl rfl (by omega) (by omega) ?_ | refine Ops.add rfl rfl rfl ?_
      refine Ops.move rfl rfl ?_
      refine Ops.nil ?_
      refine Run.sub (e' := [(0, .pointer (some ⟨b, 0, none⟩)), (6, .slice (some ⟨g, o, none⟩) ms.length c), (7, .int .i64 (ms.length : Int)), (8, .int .i64 ((i + 1 : Nat) : Int))]) (subB_spec ⟨rfl, rfl, rfl, rfl, trivial⟩) (Run.stop ⟨ms.length - (i + 1), by omega, i + 1, v', rfl, by omega, rfl, ?_⟩)
      rw [hnx]
      unfold snd1
      first | (rw [if_pos hy64, ← List.eraseIdx_zero]; exact iGrow hst7) | (rw [if_neg hy64]; exact iGrow hst7)
    · skip
      have hy64z : ¬ (ys.length : Int) = 64 := by simpa using hc17
      have hy64 : ¬ ys.length = 64 := by omega
      refine Run.skip ?_
      refine Run.region ?_
      refine Ops.move rfl rfl ?_
      refine Ops.move rfl rfl ?_
      refine Ops.nilCheck rfl rfl ?_
      refine Ops.fieldAddr rfl Try.underlying43 rfl sz41 rfl ?_
      refine Ops.load rfl Try.underlying41 rfl (by first | exact hst4.cell (i := 0) rfl rfl | exact hst4.cell (i := 1) rfl rfl | exact hst4.cell (i := 2) rfl rfl | assumption) rfl ?_
      refine Ops.move rfl rfl ?_
      refine Ops.buildSlice [(Value.int .i64) m] hst4 rfl Try.underlying41 sz3 zr3 rfl rfl (by kernel_rfl) rfl (fun g2 w2 hst2 hg2 => ?_)
      refine Ops.append 1 hst2 rfl rfl rfl rfl rfl Try.underlying41 iinfo rfl (by omega) (Rd_of_blk (m := 1) hst2 (i := 2) rfl rfl (by simp [Value.oneCell'])) (by simp only [maxLen]; omega) (by omega) rfl (fun v' w6 hst6 hnil => ?_)
      have hv' := vof (hst6.get (i := 1) rfl) --ST hst6
      refine Ops.nilCheck rfl rfl ?_
      refine Ops.fieldAddr rfl Try.underlying43 rfl sz41 rfl ?_
      refine Ops.store 0 [v'] hst6 rfl rfl rfl (vcells v' hv') sz41 rfl (vone v' hv') (by simp) (fun w7 hst7 => ?_) --ST hst7
      refine Ops.nil ?_
      refine Run.endBlk ?_
      refine Run.region ?_
      first | refine Ops.addI rfl rfl rfl (by omega) (by omega) ?_ | refine Ops.add rfl rfl rfl ?_
      refine Ops.move rfl rfl ?_
      refine Ops.nil ?_
      refine Run.sub (e' := [(0, .pointer (some ⟨b, 0, none⟩)), (6, .slice (some ⟨g, o, none⟩) ms.length c), (7, .int .i64 (ms.length : Int)), (8, .int .i64 ((i + 1 : Nat) : Int))]) (subB_spec ⟨rfl, rfl, rfl, rfl, trivial⟩) (Run.stop ⟨ms.length - (i + 1), by omega, i + 1, v', rfl, by omega, rfl, ?_⟩)
      rw [hnx]
      unfold snd1
      first | (rw [if_pos hy64, ← List.eraseIdx_zero]; exact iGrow hst7) | (rw [if_neg hy64]; exact iGrow hst7)
  · skip
    refine Run.exit _ rfl ?_
    refine Run.done _ rfl (fun a ha => res0 rfl ha) ?_
    have hie : i = ms.length := by have := of_decide_eq_false hc9; omega
    subst hie
    rw [List.take_length] at hst4
    exact ⟨rfl, u, hst4⟩

set_option maxRecDepth 100000 in
set_option maxHeartbeats 2000000 in
theorem iTwice0 (b : Nat) (v : Value) (lost k : Int) (w : World) (hst : Owns (iNet b v [] lost) w) :
    Calls Try.prog 22 #[.pointer (some ⟨b, 0, none⟩), .int .i64 k] w fun e w' => e = .returned (.bool false) ∧ w' = w := by
  refine calls_of_run Try.func22 rfl rfl ?_
  refine Run.seq ?_
  refine Run.region ?_
  refine Ops.assign rfl rfl ?_
  refine Ops.nil ?_
  refine Run.seq ?_
  refine Run.region ?_
  refine Ops.move rfl rfl ?_
  refine Ops.move rfl rfl ?_
  refine Ops.call rfl rfl Try.func35 (by kernel_rfl) (by kernel_rfl) rfl (iPlace0 b v lost k w hst) ?_
  rintro x w1 ⟨rfl, rfl⟩
  refine ⟨_, rfl, ?_⟩
  refine Ops.assign rfl rfl ?_
  refine Ops.nil ?_
  refine Run.seq ?_
  refine Run.seq ?_
  refine Run.region ?_
  refine Ops.move rfl rfl ?_
  refine Ops.geq rfl rfl rfl ?_
  refine Ops.nil ?_
  refine Run.condF rfl (rfl) ?_
  refine Run.skip ?_
  refine Run.seq ?_
  refine Run.region ?_
  refine Ops.move rfl rfl ?_
  refine Ops.geq rfl rfl rfl ?_
  refine Ops.assign rfl rfl ?_
  refine Ops.nil ?_
  refine Run.ret _ rfl (fun a ha => res1 rfl rfl ha) ?_
  exact ⟨rfl, rfl⟩

set_option maxRecDepth 100000 in
set_option maxHeartbeats 2000000 in
theorem iTwice (b : Nat) (v : Value) (xs : List Int) (lost k : Int) (i : Nat) (x : Int) (w : World) (h64 : xs.length ≤ 64) (hi : k % xs.length = i) (hx : xs[i]? = some x) (hlo : 0 ≤ lost ∧ lost ≤ 1000000000) (hst : Owns (iNet b v xs lost) w) :
    Calls Try.prog 22 #[.pointer (some ⟨b, 0, none⟩), .int .i64 k] w fun e w' => e = .returned (.bool true) ∧ ∃ v', St w (fps (iNet b v xs lost)) (iNet b v' (snd1 (xs, lost) x).1 (snd1 (xs, lost) x).2) w' := by
  have hlt : i < xs.length := by
    rcases Nat.lt_or_ge i xs.length with h | h
    · exact h
    · rw [List.getElem?_eq_none h] at hx; cases hx
  obtain ⟨A, c, rfl, hc, hpos⟩ := (hst.rd (i := 1) rfl).shape
  obtain ⟨g, o, rfl⟩ := hpos (by omega)
  refine calls_of_run Try.func22 rfl rfl ?_
  refine Run.seq ?_
  refine Run.region ?_
  refine Ops.assign rfl rfl ?_
  refine Ops.nil ?_
  refine Run.seq ?_
  refine Run.region ?_
  refine Ops.move rfl rfl ?_
  refine Ops.move rfl rfl ?_
  refine Ops.call rfl rfl Try.func35 (by kernel_rfl) (by kernel_rfl) rfl (iPlace b _ xs lost k i w (by omega) (by omega) hi hst) ?_
  rintro x w1 ⟨rfl, hst1⟩
  refine ⟨_, rfl, ?_⟩ --ST hst1
  refine Ops.assign rfl rfl ?_
  refine Ops.nil ?_
  refine Run.seq ?_
  refine Run.seq ?_
  refine Run.region ?_
  refine Ops.move rfl rfl ?_
  refine Ops.geq rfl rfl rfl ?_
  refine Ops.nil ?_
  refine Run.condT rfl ((decide_eq_true (by omega))) ?_
  refine Run.region ?_
  refine Ops.move rfl rfl ?_
  refine Ops.move rfl rfl ?_
  refine Ops.nilCheck rfl rfl ?_
  refine Ops.fieldAddr rfl Try.underlying43 rfl sz41 rfl ?_
  refine Ops.load rfl Try.underlying41 rfl (by first | exact hst1.cell (i := 0) rfl rfl | exact hst1.cell (i := 1) rfl rfl | exact hst1.cell (i := 2) rfl rfl | assumption) rfl ?_
  refine Ops.move rfl rfl ?_
  refine Ops.indexAddr (j := i) rfl rfl Try.underlying41 sz3 rfl (by omega) (by omega) (by first | rfl | (simp; done) | (simp; omega) | omega) rfl ?_
  refine Ops.load rfl Try.underlying3 rfl ((hst1.rd (i := 1) rfl).cell (j := i) (by rw [List.getElem?_map, hx]; rfl)) rfl ?_
  refine Ops.buildSlice [(Value.int .i64) x] hst1 rfl Try.underlying41 sz3 zr3 rfl rfl (by kernel_rfl) rfl (fun g1 w1 hst1 hg1 => ?_)
  refine Ops.call rfl rfl Try.func18 (by kernel_rfl) (by kernel_rfl) rfl (iSend b _ _ xs [x] lost _ h64 (by simp) hlo (Rd_of_blk (m := 1) hst1 (i := 2) rfl rfl (by simp [Value.oneCell'])) (fun k hk => (St.sepR (H1 := iNet b _ xs lost) hst1 (List.mem_singleton.2 rfl) (by cases hk; rfl))) (St.hand (H1 := iNet b _ xs lost) hst1)) ?_
  rintro x w3 ⟨rfl, v', hq⟩
  have hst3 := St.back (H1 := iNet b _ xs lost) hst1 hq
  refine ⟨_, rfl, ?_⟩ --ST hst3
  refine Ops.nil ?_
  refine Run.seq ?_
  refine Run.region ?_
  refine Ops.move rfl rfl ?_
  refine Ops.geq rfl rfl rfl ?_
  refine Ops.assign rfl rfl ?_
  refine Ops.nil ?_
  refine Run.ret _ rfl (fun a ha => res1 rfl rfl ha) ?_
  exact ⟨congrArg (fun z => Ending.returned (Value.bool z)) (decide_eq_true (by omega)), v', hst3.sub (List.sublist_append_left _ _)⟩


theorem sGrow {w0 w : World} {F0 : Nat → Prop} {b : Nat} {v : Value} {L : List ByteArray} {m : ByteArray} {lost : Int} {X : List Res} (h : St w0 F0 ([blk b [v, .int .i64 lost] 58, orow 9 1 v (L.length + 1) (L.map (Value.string) ++ [(Value.string) m])] ++ X) w) : St w0 F0 (sNet b v (L ++ [m]) lost) w := by
  have h1 := h.sub (List.sublist_append_left _ _)
  unfold sNet
  rw [List.length_append, List.map_append]
  exact h1

set_option maxRecDepth 100000 in
set_option maxHeartbeats 2000000 in
theorem sDrop0 (b : Nat) (v : Value) (lost k : Int) (w : World) (hst : Owns (sNet b v [] lost) w) :
    Calls Try.prog 26 #[.pointer (some ⟨b, 0, none⟩), .int .i64 k] w fun e w' => e = .returned (.bool false) ∧ w' = w := by
  refine calls_of_run Try.func26 rfl rfl ?_
  refine Run.seq ?_
  refine Run.region ?_
  refine Ops.assign rfl rfl ?_
  refine Ops.nil ?_
  refine Run.seq ?_
  refine Run.region ?_
  refine Ops.move rfl rfl ?_
  refine Ops.move rfl rfl ?_
  refine Ops.call rfl rfl Try.func25 (by kernel_rfl) (by kernel_rfl) rfl (sTake0 b v lost k w hst) ?_
  rintro x w1 ⟨rfl, rfl⟩
  refine ⟨_, rfl, ?_⟩
  refine Ops.move rfl rfl ?_
  refine Ops.extract rfl rfl rfl ?_
  refine Ops.extract rfl rfl rfl ?_
  refine Ops.assign rfl rfl ?_
  refine Ops.assign rfl rfl ?_
  refine Ops.nil ?_
  refine Run.seq ?_
  refine Run.seq ?_
  refine Run.region ?_
  refine Ops.move rfl rfl ?_
  refine Ops.nil ?_
  refine Run.condF rfl (rfl) ?_
  refine Run.skip ?_
  refine Run.seq ?_
  refine Run.region ?_
  refine Ops.move rfl rfl ?_
  refine Ops.assign rfl rfl ?_
  refine Ops.nil ?_
  refine Run.ret _ rfl (fun a ha => res1 rfl rfl ha) ?_
  exact ⟨rfl, rfl⟩

set_option maxRecDepth 100000 in
set_option maxHeartbeats 2000000 in
theorem sDrop (b : Nat) (v : Value) (xs : List ByteArray) (lost k : Int) (i : Nat) (x : ByteArray) (w : World) (hl2 : xs.length ≤ 1000) (hi : k % xs.length = i) (hx : xs[i]? = some x) (hlo : 0 ≤ lost ∧ lost ≤ 4000000000) (hst : Owns (sNet b v xs lost) w) :
    Calls Try.prog 26 #[.pointer (some ⟨b, 0, none⟩), .int .i64 k] w fun e w' => e = .returned (.bool true) ∧ ∃ v', St w (fps (sNet b v xs lost)) (sNet b v' (xs.eraseIdx i) (lost + 1)) w' := by
  refine calls_of_run Try.func26 rfl rfl ?_
  refine Run.seq ?_
  refine Run.region ?_
  refine Ops.assign rfl rfl ?_
  refine Ops.nil ?_
  refine Run.seq ?_
  refine Run.region ?_
  refine Ops.move rfl rfl ?_
  refine Ops.move rfl rfl ?_
  refine Ops.call rfl rfl Try.func25 (by kernel_rfl) (by kernel_rfl) rfl (sTake b v xs lost k i x w hl2 hi hx hst) ?_
  rintro x w1 ⟨rfl, v', hst1⟩
  refine ⟨_, rfl, ?_⟩ --ST hst1
  refine Ops.move rfl rfl ?_
  refine Ops.extract rfl rfl rfl ?_
  refine Ops.extract rfl rfl rfl ?_
  refine Ops.assign rfl rfl ?_
  refine Ops.assign rfl rfl ?_
  refine Ops.nil ?_
  refine Run.seq ?_
  refine Run.seq ?_
  refine Run.region ?_
  refine Ops.move rfl rfl ?_
  refine Ops.nil ?_
  refine Run.condT rfl (rfl) ?_
  refine Run.region ?_
  refine Ops.move rfl rfl ?_
  refine Ops.nilCheck rfl rfl ?_
  refine Ops.fieldAddr rfl Try.underlying58 rfl sz3 rfl ?_
  refine Ops.load rfl Try.underlying3 rfl (by first | exact hst1.cell (i := 0) rfl rfl | exact hst1.cell (i := 1) rfl rfl | exact hst1.cell (i := 2) rfl rfl | assumption) rfl ?_
  first | refine Ops.addI rfl rfl rfl (by omega) (by omega) ?_ | refine Ops.add rfl rfl rfl ?_
  refine Ops.nilCheck rfl rfl ?_
  refine Ops.fieldAddr rfl Try.underlying58 rfl sz3 rfl ?_
  first | refine Ops.store 0 [_] hst1 rfl rfl rfl rfl sz3 rfl (by simp [Value.oneCell']) (by simp) (fun w1 hst1 => ?_) | refine Ops.store 1 [_] hst1 rfl rfl rfl rfl sz3 rfl (by simp [Value.oneCell']) (by simp) (fun w1 hst1 => ?_) | refine Ops.store 2 [_] hst1 rfl rfl rfl rfl sz3 rfl (by simp [Value.oneCell']) (by simp) (fun w1 hst1 => ?_)
  refine Ops.nil ?_
  refine Run.seq ?_
  refine Run.region ?_
  refine Ops.move rfl rfl ?_
  refine Ops.assign rfl rfl ?_
  refine Ops.nil ?_
  refine Run.ret _ rfl (fun a ha => res1 rfl rfl ha) ?_
  exact ⟨rfl, v', hst1⟩

set_option maxRecDepth 100000 in
set_option maxHeartbeats 2000000 in
theorem sSend (b : Nat) (v s : Value) (xs ms : List ByteArray) (lost : Int) (w : World) (h64 : xs.length ≤ 64) (hm : ms.length ≤ 1000000) (hlo : 0 ≤ lost ∧ lost ≤ 1000000000) (hr : Rd w 1 s ms.length (ms.map (Value.string))) (hsep : ∀ k, s.ownBlock = some k → ¬ fps (sNet b v xs lost) k) (hst : Owns (sNet b v xs lost) w) :
    Calls Try.prog 24 #[.pointer (some ⟨b, 0, none⟩), s] w fun e w' => e = .returned (.tuple #[]) ∧ ∃ v', St w (fps (sNet b v xs lost)) (sNet b v' (snds (xs, lost) ms).1 (snds (xs, lost) ms).2) w' := by
  obtain ⟨A, c, rfl, hc, hpos⟩ := hr.shape
  refine calls_of_run Try.func24 rfl rfl ?_
  refine Run.seq ?_
  refine Run.region ?_
  refine Ops.move rfl rfl ?_
  refine Ops.len rfl rfl rfl Try.underlying56 rfl ?_
  refine Ops.move rfl rfl ?_
  refine Ops.nil ?_
  refine Run.block ?_
  refine Run.sub (e' := [(0, .pointer (some ⟨b, 0, none⟩)), (6, .slice A ms.length c), (7, .int .i64 (ms.length : Int)), (8, .int .i64 0)]) (subB_spec ⟨rfl, rfl, rfl, rfl, trivial⟩) ?_
  refine Run.loop (fun fuel e' w' => ∃ (i : Nat) (u : Value), e' = [(0, .pointer (some ⟨b, 0, none⟩)), (6, .slice A ms.length c), (7, .int .i64 (ms.length : Int)), (8, .int .i64 (i : Int))] ∧ i ≤ ms.length ∧ fuel = ms.length - i ∧ St w (fps (sNet b v xs lost)) (sNet b u (snds (xs, lost) (ms.take i)).1 (snds (xs, lost) (ms.take i)).2) w') ms.length ⟨0, v, rfl, by omega, by omega, hst⟩ ?_
  rintro fuel e' w4 ⟨i, u, rfl, hi, rfl, hst4⟩ --ST hst4
  refine Run.seq ?_
  refine Run.region ?_
  refine Ops.lss rfl rfl rfl ?_
  refine Ops.nil ?_
  refine Run.seq ?_
  refine Run.cond rfl (fun hc9 => ?_) (fun hc9 => ?_)
  · skip
    have hlt : i < ms.length := by have := of_decide_eq_true hc9; omega
    obtain ⟨g, o, rfl⟩ := hpos (by omega)
    obtain ⟨m, hmi⟩ : ∃ m, ms[i]? = some m := ⟨_, List.getElem?_eq_getElem hlt⟩
    have hnx := snds_succ (p := (xs, lost)) hmi
    have hbd := snds_bd (ms.take i) (xs, lost) h64
    obtain ⟨⟨ys, lo⟩, hp⟩ : ∃ p, p = snds (xs, lost) (ms.take i) := ⟨_, rfl⟩
    rw [← hp] at hst4 hnx hbd
    have hbd1 : ys.length ≤ 64 := hbd.1
    have hbd2 : 0 ≤ lo := Int.le_trans hlo.1 hbd.2.1
    have hbd3 : lo ≤ 1000000000 + (ms.take i).length := Int.le_trans hbd.2.2 (by simp only []; omega)
    have htl : (ms.take i).length ≤ 1000000 := by rw [List.length_take]; omega
    have hst4 : St w (fps (sNet b v xs lost)) (sNet b u ys lo) w4 := hst4
    obtain ⟨A2, c2, rfl, hc2, hpos2⟩ := (hst4.rd (i := 1) rfl).shape
    refine Run.skip ?_
    refine Run.seq ?_
    refine Run.block ?_
    refine Run.seq ?_
    refine Run.region ?_
    refine Ops.indexAddr (j := i) rfl rfl Try.underlying56 sz9 rfl (by omega) (by omega) (by first | rfl | (simp; done) | (simp; omega) | omega) rfl ?_
    refine Ops.load rfl Try.underlying9 rfl ((hr.later hst4 hsep).cell (j := i) (by rw [List.getElem?_map, hmi]; rfl)) rfl ?_
    refine Ops.assign rfl rfl ?_
    refine Ops.nil ?_
    refine Run.seq ?_
    refine Run.seq ?_
    refine Run.region ?_
    refine Ops.move rfl rfl ?_
    refine Ops.nilCheck rfl rfl ?_
    refine Ops.fieldAddr rfl Try.underlying58 rfl sz56 rfl ?_
    refine Ops.load rfl Try.underlying56 rfl (by first | exact hst4.cell (i := 0) rfl rfl | exact hst4.cell (i := 1) rfl rfl | exact hst4.cell (i := 2) rfl rfl | assumption) rfl ?_
    refine Ops.len rfl rfl rfl Try.underlying56 rfl ?_
    refine Ops.eql rfl rfl rfl ?_
    refine Ops.nil ?_
    refine Run.cond rfl (fun hc17 => ?_) (fun hc17 => ?_)
    · skip
      have hy64z : (ys.length : Int) = 64 := by simpa using hc17
      have hy64 : ys.length = 64 := by omega
      obtain ⟨y0, hy0⟩ : ∃ y0, ys[0]? = some y0 := ⟨_, List.getElem?_eq_getElem (by omega)⟩
      have hel : (ys.eraseIdx 0).length ≤ 64 := Nat.le_trans (List.length_eraseIdx_le _ _) hbd1
      refine Run.region ?_
      refine Ops.move rfl rfl ?_
      refine Ops.call rfl rfl Try.func26 (by kernel_rfl) (by kernel_rfl) rfl (sDrop b _ ys lo 0 0 y0 w4 (by omega) (by simp) hy0 (by omega) hst4.owns) ?_
      rintro x w5 ⟨rfl, u2, hq⟩
      have hst5 := hst4.whole hq
      obtain ⟨A3, c3, rfl, hc3, hpos3⟩ := (hst5.rd (i := 1) rfl).shape
      refine ⟨_, rfl, ?_⟩ --ST hst5
      refine Ops.nil ?_
      refine Run.region ?_
      refine Ops.move rfl rfl ?_
      refine Ops.move rfl rfl ?_
      refine Ops.nilCheck rfl rfl ?_
      refine Ops.fieldAddr rfl Try.underlying58 rfl sz56 rfl ?_
      refine Ops.load rfl Try.underlying56 rfl (by first | exact hst5.cell (i := 0) rfl rfl | exact hst5.cell (i := 1) rfl rfl | exact hst5.cell (i := 2) rfl rfl | assumption) rfl ?_
      refine Ops.move rfl rfl ?_
      refine Ops.buildSlice [(Value.string) m] hst5 rfl Try.underlying56 sz9 zr9 rfl rfl (by kernel_rfl) rfl (fun g1 w1 hst1 hg1 => ?_)
      refine Ops.append 1 hst1 rfl rfl rfl rfl rfl Try.underlying56 sinfo rfl (by omega) (Rd_of_blk (m := 1) hst1 (i := 2) rfl rfl (by simp [Value.oneCell'])) (by simp only [maxLen]; omega) (by omega) rfl (fun v' w6 hst6 hnil => ?_)
      have hv' := vof (hst6.get (i := 1) rfl) --ST hst6
      refine Ops.nilCheck rfl rfl ?_
      refine Ops.fieldAddr rfl Try.underlying58 rfl sz56 rfl ?_
      refine Ops.store 0 [v'] hst6 rfl rfl rfl (vcells v' hv') sz56 rfl (vone v' hv') (by simp) (fun w7 hst7 => ?_) --ST hst7
      refine Ops.nil ?_
      refine Run.endBlk ?_
      refine Run.region ?_
      first | refine Ops.addI rfl rfl rfl (by omega) (by omega) ?_ | refine Ops.add rfl rfl rfl ?_
      refine Ops.move rfl rfl ?_
      refine Ops.nil ?_
      refine Run.sub (e' := [(0, .pointer (some ⟨b, 0, none⟩)), (6, .slice (some ⟨g, o, none⟩) ms.length c), (7, .int .i64 (ms.length : Int)), (8, .int .i64 ((i + 1 : Nat) : Int))]) (subB_spec ⟨rfl, rfl, rfl, rfl, trivial⟩) (Run.stop ⟨ms.length - (i + 1), by omega, i + 1, v', rfl, by omega, rfl, ?_⟩)
      rw [hnx]
      unfold snd1
      first | (rw [if_pos hy64, ← List.eraseIdx_zero]; exact sGrow hst7) | (rw [if_neg hy64]; exact sGrow hst7)
    · skip
      have hy64z : ¬ (ys.length : Int) = 64 := by simpa using hc17
      have hy64 : ¬ ys.length = 64 := by omega
      refine Run.skip ?_
      refine Run.region ?_
      refine Ops.move rfl rfl ?_
      refine Ops.move rfl rfl ?_
      refine Ops.nilCheck rfl rfl ?_
      refine Ops.fieldAddr rfl Try.underlying58 rfl sz56 rfl ?_
      refine Ops.load rfl Try.underlying56 rfl (by first | exact hst4.cell (i := 0) rfl rfl | exact hst4.cell (i := 1) rfl rfl | exact hst4.cell (i := 2) rfl rfl | assumption) rfl ?_
      refine Ops.move rfl rfl ?_
      refine Ops.buildSlice [(Value.string) m] hst4 rfl Try.underlying56 sz9 zr9 rfl rfl (by kernel_rfl) rfl (fun g2 w2 hst2 hg2 => ?_)
      refine Ops.append 1 hst2 rfl rfl rfl rfl rfl Try.underlying56 sinfo rfl (by omega) (Rd_of_blk (m := 1) hst2 (i := 2) rfl rfl (by simp [Value.oneCell'])) (by simp only [maxLen]; omega) (by omega) rfl (fun v' w6 hst6 hnil => ?_)
      have hv' := vof (hst6.get (i := 1) rfl) --ST hst6
      refine Ops.nilCheck rfl rfl ?_
      refine Ops.fieldAddr rfl Try.underlying58 rfl sz56 rfl ?_
      refine Ops.store 0 [v'] hst6 rfl rfl rfl (vcells v' hv') sz56 rfl (vone v' hv') (by simp) (fun w7 hst7 => ?_) --ST hst7
      refine Ops.nil ?_
      refine Run.endBlk ?_
      refine Run.region ?_
      first | refine Ops.addI rfl rfl rfl (by omega) (by omega) ?_ | refine Ops.add rfl rfl rfl ?_
      refine Ops.move rfl rfl ?_
      refine Ops.nil ?_
      refine Run.sub (e' := [(0, .pointer (some ⟨b, 0, none⟩)), (6, .slice (some ⟨g, o, none⟩) ms.length c), (7, .int .i64 (ms.length : Int)), (8, .int .i64 ((i + 1 : Nat) : Int))]) (subB_spec ⟨rfl, rfl, rfl, rfl, trivial⟩) (Run.stop ⟨ms.length - (i + 1), by omega, i + 1, v', rfl, by omega, rfl, ?_⟩)
      rw [hnx]
      unfold snd1
      first | (rw [if_pos hy64, ← List.eraseIdx_zero]; exact sGrow hst7) | (rw [if_neg hy64]; exact sGrow hst7)
  · skip
    refine Run.exit _ rfl ?_
    refine Run.done _ rfl (fun a ha => res0 rfl ha) ?_
    have hie : i = ms.length := by have := of_decide_eq_false hc9; omega
    subst hie
    rw [List.take_length] at hst4
    exact ⟨rfl, u, hst4⟩

set_option maxRecDepth 100000 in
set_option maxHeartbeats 2000000 in
theorem sTwice0 (b : Nat) (v : Value) (lost k : Int) (w : World) (hst : Owns (sNet b v [] lost) w) :
    Calls Try.prog 27 #[.pointer (some ⟨b, 0, none⟩), .int .i64 k] w fun e w' => e = .returned (.bool false) ∧ w' = w := by
  refine calls_of_run Try.func27 rfl rfl ?_
  refine Run.seq ?_
  refine Run.region ?_
  refine Ops.assign rfl rfl ?_
  refine Ops.nil ?_
  refine Run.seq ?_
  refine Run.region ?_
  refine Ops.move rfl rfl ?_
  refine Ops.move rfl rfl ?_
  refine Ops.call rfl rfl Try.func36 (by kernel_rfl) (by kernel_rfl) rfl (sPlace0 b v lost k w hst) ?_
  rintro x w1 ⟨rfl, rfl⟩
  refine ⟨_, rfl, ?_⟩
  refine Ops.assign rfl rfl ?_
  refine Ops.nil ?_
  refine Run.seq ?_
  refine Run.seq ?_
  refine Run.region ?_
  refine Ops.move rfl rfl ?_
  refine Ops.geq rfl rfl rfl ?_
  refine Ops.nil ?_
  refine Run.condF rfl (rfl) ?_
  refine Run.skip ?_
  refine Run.seq ?_
  refine Run.region ?_
  refine Ops.move rfl rfl ?_
  refine Ops.geq rfl rfl rfl ?_
  refine Ops.assign rfl rfl ?_
  refine Ops.nil ?_
  refine Run.ret _ rfl (fun a ha => res1 rfl rfl ha) ?_
  exact ⟨rfl, rfl⟩

set_option maxRecDepth 100000 in
set_option maxHeartbeats 2000000 in
theorem sTwice (b : Nat) (v : Value) (xs : List ByteArray) (lost k : Int) (i : Nat) (x : ByteArray) (w : World) (h64 : xs.length ≤ 64) (hi : k % xs.length = i) (hx : xs[i]? = some x) (hlo : 0 ≤ lost ∧ lost ≤ 1000000000) (hst : Owns (sNet b v xs lost) w) :
    Calls Try.prog 27 #[.pointer (some ⟨b, 0, none⟩), .int .i64 k] w fun e w' => e = .returned (.bool true) ∧ ∃ v', St w (fps (sNet b v xs lost)) (sNet b v' (snd1 (xs, lost) x).1 (snd1 (xs, lost) x).2) w' := by
  have hlt : i < xs.length := by
    rcases Nat.lt_or_ge i xs.length with h | h
    · exact h
    · rw [List.getElem?_eq_none h] at hx; cases hx
  obtain ⟨A, c, rfl, hc, hpos⟩ := (hst.rd (i := 1) rfl).shape
  obtain ⟨g, o, rfl⟩ := hpos (by omega)
  refine calls_of_run Try.func27 rfl rfl ?_
  refine Run.seq ?_
  refine Run.region ?_
  refine Ops.assign rfl rfl ?_
  refine Ops.nil ?_
  refine Run.seq ?_
  refine Run.region ?_
  refine Ops.move rfl rfl ?_
  refine Ops.move rfl rfl ?_
  refine Ops.call rfl rfl Try.func36 (by kernel_rfl) (by kernel_rfl) rfl (sPlace b _ xs lost k i w (by omega) (by omega) hi hst) ?_
  rintro x w1 ⟨rfl, hst1⟩
  refine ⟨_, rfl, ?_⟩ --ST hst1
  refine Ops.assign rfl rfl ?_
  refine Ops.nil ?_
  refine Run.seq ?_
  refine Run.seq ?_
  refine Run.region ?_
  refine Ops.move rfl rfl ?_
  refine Ops.geq rfl rfl rfl ?_
  refine Ops.nil ?_
  refine Run.condT rfl ((decide_eq_true (by omega))) ?_
  refine Run.region ?_
  refine Ops.move rfl rfl ?_
  refine Ops.move rfl rfl ?_
  refine Ops.nilCheck rfl rfl ?_
  refine Ops.fieldAddr rfl Try.underlying58 rfl sz56 rfl ?_
  refine Ops.load rfl Try.underlying56 rfl (by first | exact hst1.cell (i := 0) rfl rfl | exact hst1.cell (i := 1) rfl rfl | exact hst1.cell (i := 2) rfl rfl | assumption) rfl ?_
  refine Ops.move rfl rfl ?_
  refine Ops.indexAddr (j := i) rfl rfl Try.underlying56 sz9 rfl (by omega) (by omega) (by first | rfl | (simp; done) | (simp; omega) | omega) rfl ?_
  refine Ops.load rfl Try.underlying9 rfl ((hst1.rd (i := 1) rfl).cell (j := i) (by rw [List.getElem?_map, hx]; rfl)) rfl ?_
  refine Ops.buildSlice [(Value.string) x] hst1 rfl Try.underlying56 sz9 zr9 rfl rfl (by kernel_rfl) rfl (fun g1 w1 hst1 hg1 => ?_)
  refine Ops.call rfl rfl Try.func24 (by kernel_rfl) (by kernel_rfl) rfl (sSend b _ _ xs [x] lost _ h64 (by simp) hlo (Rd_of_blk (m := 1) hst1 (i := 2) rfl rfl (by simp [Value.oneCell'])) (fun k hk => (St.sepR (H1 := sNet b _ xs lost) hst1 (List.mem_singleton.2 rfl) (by cases hk; rfl))) (St.hand (H1 := sNet b _ xs lost) hst1)) ?_
  rintro x w3 ⟨rfl, v', hq⟩
  have hst3 := St.back (H1 := sNet b _ xs lost) hst1 hq
  refine ⟨_, rfl, ?_⟩ --ST hst3
  refine Ops.nil ?_
  refine Run.seq ?_
  refine Run.region ?_
  refine Ops.move rfl rfl ?_
  refine Ops.geq rfl rfl rfl ?_
  refine Ops.assign rfl rfl ?_
  refine Ops.nil ?_
  refine Run.ret _ rfl (fun a ha => res1 rfl rfl ha) ?_
  exact ⟨congrArg (fun z => Ending.returned (Value.bool z)) (decide_eq_true (by omega)), v', hst3.sub (List.sublist_append_left _ _)⟩

end Go.Proofs.Ytiijlkebolfcpaa.Net2
