/- Net: walks. -/
import Derived.Test.YtiijlkebolfcpaaProg
import Derived.Test.YtiijlkebolfcpaaSxF
namespace Go.Proofs.Ytiijlkebolfcpaa.Net
open Go Go.RowKit Go.Proofs.Ytiijlkebolfcpaa.Sx
set_option linter.unusedVariables false
set_option linter.unusedSimpArgs false
theorem sz3 : (Try.prog.info? 3).map (·.size) = some 1 := by kernel_rfl
theorem sz9 : (Try.prog.info? 9).map (·.size) = some 1 := by kernel_rfl
theorem sz41 : (Try.prog.info? 41).map (·.size) = some 1 := by kernel_rfl
theorem sz56 : (Try.prog.info? 56).map (·.size) = some 1 := by kernel_rfl

theorem tmod_bd (k : Int) (n : Nat) (h : 0 < n) : -(n : Int) < Int.tmod k n ∧ Int.tmod k n < n := by
  have h1 := Int.emod_nonneg k (by omega : (n : Int) ≠ 0)
  have h2 := Int.emod_lt_of_pos k (by omega : (0 : Int) < n)
  rw [Int.tmod_eq_emod]
  split <;> simp <;> omega
theorem emod_i (k : Int) (n : Nat) (h : 0 < n) : (Int.tmod k n + n) % n = k % n := by
  have h1 : 0 ≤ Int.tmod k n + n := by
    have := (tmod_bd k n h).1
    omega
  rw [Int.add_emod_right, Int.tmod_eq_emod]
  split
  · simp
  · rw [Int.sub_emod]; simp
theorem vone (v : Value) (h : ∃ A l c, v = .slice A l c) : ∀ u ∈ [v], u.oneCell' = true := by
  obtain ⟨A, l, c, rfl⟩ := h
  simp [Value.oneCell']
theorem vcells (v : Value) (h : ∃ A l c, v = .slice A l c) : v.cells = [v].toArray := by
  obtain ⟨A, l, c, rfl⟩ := h
  rfl
theorem vof {E sz m : Nat} {v : Value} {xs : List Value} {h : Nat → Option Obj} (hh : (orow E sz v m xs).p h) : ∃ A l c, v = .slice A l c := by
  obtain ⟨_, _, h3⟩ := hh
  rcases h3 with ⟨rfl, _⟩ | ⟨g, o, cap, cur, rfl, _⟩ <;> exact ⟨_, _, _, rfl⟩


/-- A net in memory: its struct, and the row of its messages. -/
def iNet (b : Nat) (v : Value) (xs : List Int) (lost : Int) : List Res := [blk b [v, .int .i64 lost] 43, orow 3 1 v xs.length (xs.map (Value.int .i64))]
theorem iinfo : (Try.prog.info? 3).map (fun i => (i.zero, i.size, i.bytes)) = some (some (.int .i64 0), 1, 8) := by kernel_rfl
theorem ione (xs : List Int) : ∀ u ∈ xs.map (Value.int .i64), u.oneCell' = true := by
  intro u hu
  obtain ⟨x, _, rfl⟩ := List.mem_map.1 hu
  rfl

set_option maxRecDepth 100000 in
set_option maxHeartbeats 2000000 in
theorem iLen (b : Nat) (v : Value) (xs : List Int) (lost : Int) (w : World) (hst : Owns (iNet b v xs lost) w) :
    Calls Try.prog 30 #[.pointer (some ⟨b, 0, none⟩)] w fun e w' => e = .returned (.int .i64 xs.length) ∧ w' = w := by
  obtain ⟨A, c, rfl, hc, hpos⟩ := (hst.rd (i := 1) rfl).shape
  refine calls_of_run Try.func30 rfl rfl ?_
  refine Run.seq ?_
  refine Run.region ?_
  refine Ops.assign rfl rfl ?_
  refine Ops.nil ?_
  refine Run.seq ?_
  refine Run.region ?_
  refine Ops.move rfl rfl ?_
  refine Ops.nilCheck rfl rfl ?_
  refine Ops.fieldAddr rfl Try.underlying43 rfl sz41 rfl ?_
  refine Ops.load rfl Try.underlying41 rfl (by first | exact hst.cell (i := 0) rfl rfl | exact hst.cell (i := 1) rfl rfl | exact hst.cell (i := 2) rfl rfl | assumption) rfl ?_
  refine Ops.len rfl rfl rfl Try.underlying41 rfl ?_
  refine Ops.assign rfl rfl ?_
  refine Ops.nil ?_
  refine Run.ret _ rfl (fun a ha => res1 rfl rfl ha) ?_
  exact ⟨rfl, rfl⟩

set_option maxRecDepth 100000 in
set_option maxHeartbeats 2000000 in
theorem iLost (b : Nat) (v : Value) (xs : List Int) (lost : Int) (w : World) (hst : Owns (iNet b v xs lost) w) :
    Calls Try.prog 31 #[.pointer (some ⟨b, 0, none⟩)] w fun e w' => e = .returned (.int .i64 lost) ∧ w' = w := by
  refine calls_of_run Try.func31 rfl rfl ?_
  refine Run.seq ?_
  refine Run.region ?_
  refine Ops.assign rfl rfl ?_
  refine Ops.nil ?_
  refine Run.seq ?_
  refine Run.region ?_
  refine Ops.move rfl rfl ?_
  refine Ops.nilCheck rfl rfl ?_
  refine Ops.fieldAddr rfl Try.underlying43 rfl sz3 rfl ?_
  refine Ops.load rfl Try.underlying3 rfl (by first | exact hst.cell (i := 0) rfl rfl | exact hst.cell (i := 1) rfl rfl | exact hst.cell (i := 2) rfl rfl | assumption) rfl ?_
  refine Ops.assign rfl rfl ?_
  refine Ops.nil ?_
  refine Run.ret _ rfl (fun a ha => res1 rfl rfl ha) ?_
  exact ⟨rfl, rfl⟩

set_option maxRecDepth 100000 in
set_option maxHeartbeats 2000000 in
theorem iPlace0 (b : Nat) (v : Value) (lost k : Int) (w : World) (hst : Owns (iNet b v [] lost) w) :
    Calls Try.prog 35 #[.pointer (some ⟨b, 0, none⟩), .int .i64 k] w fun e w' => e = .returned (.int .i64 (-1)) ∧ w' = w := by
  obtain ⟨A, c, rfl, hc, hpos⟩ := (hst.rd (i := 1) rfl).shape
  refine calls_of_run Try.func35 rfl rfl ?_
  refine Run.seq ?_
  refine Run.region ?_
  refine Ops.assign rfl rfl ?_
  refine Ops.nil ?_
  refine Run.seq ?_
  refine Run.seq ?_
  refine Run.region ?_
  refine Ops.move rfl rfl ?_
  refine Ops.nilCheck rfl rfl ?_
  refine Ops.fieldAddr rfl Try.underlying43 rfl sz41 rfl ?_
  refine Ops.load rfl Try.underlying41 rfl (by first | exact hst.cell (i := 0) rfl rfl | exact hst.cell (i := 1) rfl rfl | exact hst.cell (i := 2) rfl rfl | assumption) rfl ?_
  refine Ops.len rfl rfl rfl Try.underlying41 rfl ?_
  refine Ops.eql rfl rfl rfl ?_
  refine Ops.nil ?_
  refine Run.condT rfl (rfl) ?_
  refine Run.seq ?_
  refine Run.region ?_
  refine Ops.assign rfl rfl ?_
  refine Ops.nil ?_
  refine Run.ret _ rfl (fun a ha => res1 rfl rfl ha) ?_
  exact ⟨rfl, rfl⟩

set_option maxRecDepth 100000 in
set_option maxHeartbeats 2000000 in
theorem iPlace (b : Nat) (v : Value) (xs : List Int) (lost k : Int) (i : Nat) (w : World) (hl : 0 < xs.length) (hl2 : xs.length ≤ 1000) (hi : k % xs.length = i) (hst : Owns (iNet b v xs lost) w) :
    Calls Try.prog 35 #[.pointer (some ⟨b, 0, none⟩), .int .i64 k] w fun e w' => e = .returned (.int .i64 i) ∧ St w (fps (iNet b v xs lost)) (iNet b v xs lost) w' := by
  obtain ⟨A, c, rfl, hc, hpos⟩ := (hst.rd (i := 1) rfl).shape
  refine calls_of_run Try.func35 rfl rfl ?_
  refine Run.seq ?_
  refine Run.region ?_
  refine Ops.assign rfl rfl ?_
  refine Ops.nil ?_
  refine Run.seq ?_
  refine Run.seq ?_
  refine Run.region ?_
  refine Ops.move rfl rfl ?_
  refine Ops.nilCheck rfl rfl ?_
  refine Ops.fieldAddr rfl Try.underlying43 rfl sz41 rfl ?_
  refine Ops.load rfl Try.underlying41 rfl (by first | exact hst.cell (i := 0) rfl rfl | exact hst.cell (i := 1) rfl rfl | exact hst.cell (i := 2) rfl rfl | assumption) rfl ?_
  refine Ops.len rfl rfl rfl Try.underlying41 rfl ?_
  refine Ops.eql rfl rfl rfl ?_
  refine Ops.nil ?_
  refine Run.condF rfl ((by simp; intro h; simp [h] at hl)) ?_
  refine Run.skip ?_
  refine Run.seq ?_
  refine Run.draw (fun w => w.cell? ⟨b, 0, none⟩ = some (.slice A xs.length c)) none (by kernel_rfl) (fun w1 hw1 => ?_)
  have hst1 := hst.idle (drew_fr _)
  rw [← hw1] at hst1
  clear hw1
  have hb1 := tmod_bd k xs.length hl
  have hS : (fun w => w.cell? ⟨b, 0, none⟩ = some (.slice A xs.length c)) w1 := hst1.cell (i := 0) rfl rfl
  refine Any.take 0 rfl rfl rfl rfl (by kernel_rfl) panic_body (Ex.move rfl).s hS ?_
  refine Any.take 1 rfl rfl rfl rfl (by kernel_rfl) panic_body (Ex.move rfl).s hS ?_
  refine Any.take 2 rfl rfl rfl rfl (by kernel_rfl) panic_body (Ex.nilCheck rfl).s hS ?_
  refine Any.take 3 rfl rfl rfl rfl (by kernel_rfl) panic_body (Ex.fieldAddr rfl Try.underlying43 rfl sz41).s hS ?_
  refine Any.take 4 rfl rfl rfl rfl (by kernel_rfl) panic_body (ExS.load rfl Try.underlying41 rfl (fun w hS => hS)) hS ?_
  refine Any.take 5 rfl rfl rfl rfl (by kernel_rfl) panic_body (Ex.len rfl rfl rfl Try.underlying41).s hS ?_
  first | refine Any.take 6 rfl rfl rfl rfl (by kernel_rfl) panic_body (Ex.remI rfl rfl  (by omega) (by omega)).s hS ?_ | refine Any.take 6 rfl rfl rfl rfl (by kernel_rfl) panic_body (Ex.rem rfl rfl  (by omega)).s hS ?_
  refine Any.take 7 rfl rfl rfl rfl (by kernel_rfl) panic_body (Ex.move rfl).s hS ?_
  refine Any.take 8 rfl rfl rfl rfl (by kernel_rfl) panic_body (Ex.nilCheck rfl).s hS ?_
  refine Any.take 9 rfl rfl rfl rfl (by kernel_rfl) panic_body (Ex.fieldAddr rfl Try.underlying43 rfl sz41).s hS ?_
  refine Any.take 10 rfl rfl rfl rfl (by kernel_rfl) panic_body (ExS.load rfl Try.underlying41 rfl (fun w hS => hS)) hS ?_
  refine Any.take 11 rfl rfl rfl rfl (by kernel_rfl) panic_body (Ex.len rfl rfl rfl Try.underlying41).s hS ?_
  first | refine Any.take 12 rfl rfl rfl rfl (by kernel_rfl) panic_body (Ex.addI rfl rfl  (by omega) (by omega)).s hS ?_ | refine Any.take 12 rfl rfl rfl rfl (by kernel_rfl) panic_body (Ex.add rfl rfl).s hS ?_
  refine Any.take 13 rfl rfl rfl rfl (by kernel_rfl) panic_body (Ex.move rfl).s hS ?_
  refine Any.take 14 rfl rfl rfl rfl (by kernel_rfl) panic_body (Ex.nilCheck rfl).s hS ?_
  refine Any.take 15 rfl rfl rfl rfl (by kernel_rfl) panic_body (Ex.fieldAddr rfl Try.underlying43 rfl sz41).s hS ?_
  refine Any.take 16 rfl rfl rfl rfl (by kernel_rfl) panic_body (ExS.load rfl Try.underlying41 rfl (fun w hS => hS)) hS ?_
  refine Any.take 17 rfl rfl rfl rfl (by kernel_rfl) panic_body (Ex.len rfl rfl rfl Try.underlying41).s hS ?_
  first | refine Any.take 18 rfl rfl rfl rfl (by kernel_rfl) panic_body (Ex.remI rfl rfl  (by omega) (by omega)).s hS ?_ | refine Any.take 18 rfl rfl rfl rfl (by kernel_rfl) panic_body (Ex.rem rfl rfl  (by omega)).s hS ?_
  refine Any.take 19 rfl rfl rfl rfl (by kernel_rfl) panic_body (Ex.assign rfl).s hS ?_
  refine Any.done (by kernel_rfl) ?_
  refine Run.ret _ rfl (fun a ha => res1 rfl rfl ha) ?_
  rw [emod_i k _ hl, hi]
  exact ⟨rfl, hst1⟩

set_option maxRecDepth 100000 in
set_option maxHeartbeats 2000000 in
theorem iTake0 (b : Nat) (v : Value) (lost k : Int) (w : World) (hst : Owns (iNet b v [] lost) w) :
    Calls Try.prog 19 #[.pointer (some ⟨b, 0, none⟩), .int .i64 k] w fun e w' => e = .returned (.tuple #[.int .i64 0, .bool false]) ∧ w' = w := by
  refine calls_of_run Try.func19 rfl rfl ?_
  refine Run.seq ?_
  refine Run.region ?_
  refine Ops.assign rfl rfl ?_
  refine Ops.assign rfl rfl ?_
  refine Ops.nil ?_
  refine Run.seq ?_
  refine Run.region ?_
  refine Ops.move rfl rfl ?_
  refine Ops.move rfl rfl ?_
  refine Ops.call rfl rfl Try.func35 (by kernel_rfl) (by kernel_rfl) rfl (iPlace0 b v lost k w hst) ?_
  rintro x w1 ⟨rfl, rfl⟩
  refine ⟨_, rfl, ?_⟩
  refine Ops.assign rfl rfl ?_
  refine Ops.nil ?_
  refine Run.seq ?_
  refine Run.seq ?_
  refine Run.region ?_
  refine Ops.move rfl rfl ?_
  refine Ops.lss rfl rfl rfl ?_
  refine Ops.nil ?_
  refine Run.condT rfl (rfl) ?_
  refine Run.seq ?_
  refine Run.region ?_
  refine Ops.assign rfl rfl ?_
  refine Ops.nil ?_
  refine Run.seq ?_
  refine Run.region ?_
  refine Ops.move rfl rfl ?_
  refine Ops.assign rfl rfl ?_
  refine Ops.assign rfl rfl ?_
  refine Ops.nil ?_
  refine Run.ret _ rfl (fun a ha => res2 rfl rfl rfl ha) ?_
  exact ⟨rfl, rfl⟩

set_option maxRecDepth 100000 in
set_option maxHeartbeats 2000000 in
theorem iTake (b : Nat) (v : Value) (xs : List Int) (lost k : Int) (i : Nat) (x : Int) (w : World) (hl2 : xs.length ≤ 1000) (hi : k % xs.length = i) (hx : xs[i]? = some x) (hst : Owns (iNet b v xs lost) w) :
    Calls Try.prog 19 #[.pointer (some ⟨b, 0, none⟩), .int .i64 k] w fun e w' => e = .returned (.tuple #[Value.int .i64 x, .bool true]) ∧ ∃ v', St w (fps (iNet b v xs lost)) (iNet b v' (xs.eraseIdx i) lost) w' := by
  have hlt : i < xs.length := by
    rcases Nat.lt_or_ge i xs.length with h | h
    · exact h
    · rw [List.getElem?_eq_none h] at hx; cases hx
  obtain ⟨A, c, rfl, hc, hpos⟩ := (hst.rd (i := 1) rfl).shape
  obtain ⟨g, o, rfl⟩ := hpos (by omega)
  have hcm := (own_cap (hst.get (i := 1) rfl)).2.2
  refine calls_of_run Try.func19 rfl rfl ?_
  refine Run.seq ?_
  refine Run.region ?_
  refine Ops.assign rfl rfl ?_
  refine Ops.assign rfl rfl ?_
  refine Ops.nil ?_
  refine Run.seq ?_
  refine Run.region ?_
  refine Ops.move rfl rfl ?_
  refine Ops.move rfl rfl ?_
  refine Ops.call rfl rfl Try.func35 (by kernel_rfl) (by kernel_rfl) rfl (iPlace b _ xs lost k i w (by omega) hl2 hi hst) ?_
  rintro x w1 ⟨rfl, hst1⟩
  refine ⟨_, rfl, ?_⟩ --ST hst1
  refine Ops.assign rfl rfl ?_
  refine Ops.nil ?_
  refine Run.seq ?_
  refine Run.seq ?_
  refine Run.region ?_
  refine Ops.move rfl rfl ?_
  refine Ops.lss rfl rfl rfl ?_
  refine Ops.nil ?_
  refine Run.condF rfl ((by simp)) ?_
  refine Run.skip ?_
  refine Run.seq ?_
  refine Run.region ?_
  refine Ops.move rfl rfl ?_
  refine Ops.nilCheck rfl rfl ?_
  refine Ops.fieldAddr rfl Try.underlying43 rfl sz41 rfl ?_
  refine Ops.load rfl Try.underlying41 rfl (by first | exact hst1.cell (i := 0) rfl rfl | exact hst1.cell (i := 1) rfl rfl | exact hst1.cell (i := 2) rfl rfl | assumption) rfl ?_
  refine Ops.move rfl rfl ?_
  refine Ops.indexAddr (j := i) rfl rfl Try.underlying41 sz3 rfl (by omega) (by omega) (by simp) rfl ?_
  refine Ops.load rfl Try.underlying3 rfl ((hst1.rd (i := 1) rfl).cell (j := i) (by rw [List.getElem?_map, hx]; rfl)) rfl ?_
  refine Ops.assign rfl rfl ?_
  refine Ops.nil ?_
  refine Run.seq ?_
  refine Run.draw (fun w => w.cell? ⟨b, 0, none⟩ = some (.slice (some ⟨g, o, none⟩) xs.length c)) (some 18) (by kernel_rfl) (fun w1 hw1 => ?_)
  have hst1 := hst1.idle (drew_fr _)
  rw [← hw1] at hst1
  clear hw1
  have hS : (fun w => w.cell? ⟨b, 0, none⟩ = some (.slice (some ⟨g, o, none⟩) xs.length c)) w1 := hst1.cell (i := 0) rfl rfl
  refine Any.take 0 rfl rfl rfl rfl (by kernel_rfl) panic_body (Ex.move rfl).s hS ?_
  refine Any.take 1 rfl rfl rfl rfl (by kernel_rfl) panic_body (Ex.move rfl).s hS ?_
  refine Any.take 2 rfl rfl rfl rfl (by kernel_rfl) panic_body (Ex.nilCheck rfl).s hS ?_
  refine Any.take 3 rfl rfl rfl rfl (by kernel_rfl) panic_body (Ex.fieldAddr rfl Try.underlying43 rfl sz41).s hS ?_
  refine Any.take 4 rfl rfl rfl rfl (by kernel_rfl) panic_body (ExS.load rfl Try.underlying41 rfl (fun w hS => hS)) hS ?_
  refine Any.take 5 rfl rfl rfl rfl (by kernel_rfl) panic_body (Ex.move rfl).s hS ?_
  refine Any.take 6 rfl rfl rfl rfl (by kernel_rfl) panic_body (Ex.move rfl).s hS ?_
  refine Any.take (v := .slice (some ⟨g, o, none⟩) i i) 7 rfl rfl rfl rfl (by kernel_rfl) panic_body (Ex.eq (Ex.cut3 (i := 0) (j := i) (q := i) rfl Try.underlying41 sz3 rfl rfl rfl (by omega) (by omega) (by omega) (by omega)) (by simp [addr_add])).s hS ?_
  refine Any.take 8 rfl rfl rfl rfl (by kernel_rfl) panic_body (Ex.move rfl).s hS ?_
  refine Any.take 9 rfl rfl rfl rfl (by kernel_rfl) panic_body (Ex.nilCheck rfl).s hS ?_
  refine Any.take 10 rfl rfl rfl rfl (by kernel_rfl) panic_body (Ex.fieldAddr rfl Try.underlying43 rfl sz41).s hS ?_
  refine Any.take 11 rfl rfl rfl rfl (by kernel_rfl) panic_body (ExS.load rfl Try.underlying41 rfl (fun w hS => hS)) hS ?_
  refine Any.take 12 rfl rfl rfl rfl (by kernel_rfl) panic_body (Ex.move rfl).s hS ?_
  first | refine Any.take 13 rfl rfl rfl rfl (by kernel_rfl) panic_body (Ex.addI rfl rfl  (by omega) (by omega)).s hS ?_ | refine Any.take 13 rfl rfl rfl rfl (by kernel_rfl) panic_body (Ex.add rfl rfl).s hS ?_
  obtain ⟨A', hA'⟩ : ∃ A', A' = (if c = i + 1 then some (⟨g, o, none⟩ : Addr) else (some (⟨g, o, none⟩ : Addr)).map (·.add ((i + 1) * 1))) := ⟨_, rfl⟩
  refine Any.take (v := .slice A' (xs.length - (i + 1)) (c - (i + 1))) 14 rfl rfl rfl rfl (by kernel_rfl) panic_body (Ex.eq (Ex.cut (i := (i : Int) + 1) (j := xs.length) rfl Try.underlying41 sz3 rfl rfl (by omega) (by omega) (by omega)) (by rw [hA']; simp [show ((i : Int) + 1).toNat = i + 1 from by omega])).s hS ?_
  have hrd := hst1.rd (i := 1) rfl
  have htail := hrd.sub (i + 1) xs.length (c - (i + 1)) (by omega) (Nat.le_refl _) (by omega) A' (by rw [hA']; by_cases h : c = i + 1; (rw [if_pos h]; exact .inr ⟨rfl, by omega⟩); (rw [if_neg h]; exact .inl rfl))
  have hst3 := hst1.cut 1 rfl 0 i i (Nat.zero_le _) (by omega) (Nat.le_refl _) (by omega) (some ⟨g, o, none⟩) (.inr ⟨rfl, rfl⟩)
  have hmx : xs.length ≤ maxLen := by simp only [maxLen]; omega
  refine Any.one 15 (by kernel_rfl) rfl rfl (One.of_ops rfl ?_)
  refine Ops.append 1 hst3 rfl rfl rfl rfl rfl Try.underlying41 iinfo rfl (by omega) htail (by omega) (by omega) rfl (fun v' w3 hst4 hnil => Ops.stop ⟨.inr (hst4.cell (i := 0) rfl rfl), ?_⟩)
  have hS := hst4.cell (i := 0) (o := 0) rfl rfl
  have hv' := vof (hst4.get (i := 1) rfl) --ST hst4
  refine Any.take 16 rfl rfl rfl rfl (by kernel_rfl) panic_body (Ex.nilCheck rfl).s hS ?_
  refine Any.take 17 rfl rfl rfl rfl (by kernel_rfl) panic_body (Ex.fieldAddr rfl Try.underlying43 rfl sz41).s hS ?_
  refine Any.one 18 (by kernel_rfl) rfl rfl (One.of_ops rfl ?_)
  refine Ops.store 0 [v'] hst4 rfl rfl rfl (vcells v' hv') sz41 rfl (vone v' hv') (by simp) (fun w4 hst5 => Ops.stop ⟨.inl rfl, ?_⟩) --ST hst5
  refine Any.done (by kernel_rfl) ?_
  refine Run.seq ?_
  refine Run.region ?_
  refine Ops.move rfl rfl ?_
  refine Ops.assign rfl rfl ?_
  refine Ops.assign rfl rfl ?_
  refine Ops.nil ?_
  refine Run.ret _ rfl (fun a ha => res2 rfl rfl rfl ha) ?_
  have h6 : St w (fps (iNet b (.slice (some ⟨g, o, none⟩) xs.length c) xs lost)) [blk b [v', .int .i64 lost] 43, orow 3 1 v' (i - 0 + (xs.length - (i + 1))) (((xs.map (Value.int .i64)).drop (0 * 1)).take ((i - 0) * 1) ++ ((xs.map (Value.int .i64)).drop ((i + 1) * 1)).take ((xs.length - (i + 1)) * 1))] w4 := hst5
  have hE : (((xs.map (Value.int .i64)).drop (0 * 1)).take ((i - 0) * 1) ++ ((xs.map (Value.int .i64)).drop ((i + 1) * 1)).take ((xs.length - (i + 1)) * 1)) = (xs.eraseIdx i).map (Value.int .i64) := by
    rw [List.eraseIdx_eq_take_drop_succ, List.map_append, List.map_take, List.map_drop]
    simp
    exact List.take_of_length_le (by simp)
  have hn : i - 0 + (xs.length - (i + 1)) = (xs.eraseIdx i).length := by rw [List.length_eraseIdx_of_lt hlt]; omega
  rw [hE, hn] at h6
  exact ⟨rfl, v', h6⟩


/-- A net in memory: its struct, and the row of its messages. -/
def sNet (b : Nat) (v : Value) (xs : List ByteArray) (lost : Int) : List Res := [blk b [v, .int .i64 lost] 58, orow 9 1 v xs.length (xs.map (Value.string))]
theorem sinfo : (Try.prog.info? 9).map (fun i => (i.zero, i.size, i.bytes)) = some (some (.string ⟨#[]⟩), 1, 16) := by kernel_rfl
theorem sone (xs : List ByteArray) : ∀ u ∈ xs.map (Value.string), u.oneCell' = true := by
  intro u hu
  obtain ⟨x, _, rfl⟩ := List.mem_map.1 hu
  rfl

set_option maxRecDepth 100000 in
set_option maxHeartbeats 2000000 in
theorem sLen (b : Nat) (v : Value) (xs : List ByteArray) (lost : Int) (w : World) (hst : Owns (sNet b v xs lost) w) :
    Calls Try.prog 32 #[.pointer (some ⟨b, 0, none⟩)] w fun e w' => e = .returned (.int .i64 xs.length) ∧ w' = w := by
  obtain ⟨A, c, rfl, hc, hpos⟩ := (hst.rd (i := 1) rfl).shape
  refine calls_of_run Try.func32 rfl rfl ?_
  refine Run.seq ?_
  refine Run.region ?_
  refine Ops.assign rfl rfl ?_
  refine Ops.nil ?_
  refine Run.seq ?_
  refine Run.region ?_
  refine Ops.move rfl rfl ?_
  refine Ops.nilCheck rfl rfl ?_
  refine Ops.fieldAddr rfl Try.underlying58 rfl sz56 rfl ?_
  refine Ops.load rfl Try.underlying56 rfl (by first | exact hst.cell (i := 0) rfl rfl | exact hst.cell (i := 1) rfl rfl | exact hst.cell (i := 2) rfl rfl | assumption) rfl ?_
  refine Ops.len rfl rfl rfl Try.underlying56 rfl ?_
  refine Ops.assign rfl rfl ?_
  refine Ops.nil ?_
  refine Run.ret _ rfl (fun a ha => res1 rfl rfl ha) ?_
  exact ⟨rfl, rfl⟩

set_option maxRecDepth 100000 in
set_option maxHeartbeats 2000000 in
theorem sLost (b : Nat) (v : Value) (xs : List ByteArray) (lost : Int) (w : World) (hst : Owns (sNet b v xs lost) w) :
    Calls Try.prog 28 #[.pointer (some ⟨b, 0, none⟩)] w fun e w' => e = .returned (.int .i64 lost) ∧ w' = w := by
  refine calls_of_run Try.func28 rfl rfl ?_
  refine Run.seq ?_
  refine Run.region ?_
  refine Ops.assign rfl rfl ?_
  refine Ops.nil ?_
  refine Run.seq ?_
  refine Run.region ?_
  refine Ops.move rfl rfl ?_
  refine Ops.nilCheck rfl rfl ?_
  refine Ops.fieldAddr rfl Try.underlying58 rfl sz3 rfl ?_
  refine Ops.load rfl Try.underlying3 rfl (by first | exact hst.cell (i := 0) rfl rfl | exact hst.cell (i := 1) rfl rfl | exact hst.cell (i := 2) rfl rfl | assumption) rfl ?_
  refine Ops.assign rfl rfl ?_
  refine Ops.nil ?_
  refine Run.ret _ rfl (fun a ha => res1 rfl rfl ha) ?_
  exact ⟨rfl, rfl⟩

set_option maxRecDepth 100000 in
set_option maxHeartbeats 2000000 in
theorem sPlace0 (b : Nat) (v : Value) (lost k : Int) (w : World) (hst : Owns (sNet b v [] lost) w) :
    Calls Try.prog 36 #[.pointer (some ⟨b, 0, none⟩), .int .i64 k] w fun e w' => e = .returned (.int .i64 (-1)) ∧ w' = w := by
  obtain ⟨A, c, rfl, hc, hpos⟩ := (hst.rd (i := 1) rfl).shape
  refine calls_of_run Try.func36 rfl rfl ?_
  refine Run.seq ?_
  refine Run.region ?_
  refine Ops.assign rfl rfl ?_
  refine Ops.nil ?_
  refine Run.seq ?_
  refine Run.seq ?_
  refine Run.region ?_
  refine Ops.move rfl rfl ?_
  refine Ops.nilCheck rfl rfl ?_
  refine Ops.fieldAddr rfl Try.underlying58 rfl sz56 rfl ?_
  refine Ops.load rfl Try.underlying56 rfl (by first | exact hst.cell (i := 0) rfl rfl | exact hst.cell (i := 1) rfl rfl | exact hst.cell (i := 2) rfl rfl | assumption) rfl ?_
  refine Ops.len rfl rfl rfl Try.underlying56 rfl ?_
  refine Ops.eql rfl rfl rfl ?_
  refine Ops.nil ?_
  refine Run.condT rfl (rfl) ?_
  refine Run.seq ?_
  refine Run.region ?_
  refine Ops.assign rfl rfl ?_
  refine Ops.nil ?_
  refine Run.ret _ rfl (fun a ha => res1 rfl rfl ha) ?_
  exact ⟨rfl, rfl⟩

set_option maxRecDepth 100000 in
set_option maxHeartbeats 2000000 in
theorem sPlace (b : Nat) (v : Value) (xs : List ByteArray) (lost k : Int) (i : Nat) (w : World) (hl : 0 < xs.length) (hl2 : xs.length ≤ 1000) (hi : k % xs.length = i) (hst : Owns (sNet b v xs lost) w) :
    Calls Try.prog 36 #[.pointer (some ⟨b, 0, none⟩), .int .i64 k] w fun e w' => e = .returned (.int .i64 i) ∧ St w (fps (sNet b v xs lost)) (sNet b v xs lost) w' := by
  obtain ⟨A, c, rfl, hc, hpos⟩ := (hst.rd (i := 1) rfl).shape
  refine calls_of_run Try.func36 rfl rfl ?_
  refine Run.seq ?_
  refine Run.region ?_
  refine Ops.assign rfl rfl ?_
  refine Ops.nil ?_
  refine Run.seq ?_
  refine Run.seq ?_
  refine Run.region ?_
  refine Ops.move rfl rfl ?_
  refine Ops.nilCheck rfl rfl ?_
  refine Ops.fieldAddr rfl Try.underlying58 rfl sz56 rfl ?_
  refine Ops.load rfl Try.underlying56 rfl (by first | exact hst.cell (i := 0) rfl rfl | exact hst.cell (i := 1) rfl rfl | exact hst.cell (i := 2) rfl rfl | assumption) rfl ?_
  refine Ops.len rfl rfl rfl Try.underlying56 rfl ?_
  refine Ops.eql rfl rfl rfl ?_
  refine Ops.nil ?_
  refine Run.condF rfl ((by simp; intro h; simp [h] at hl)) ?_
  refine Run.skip ?_
  refine Run.seq ?_
  refine Run.draw (fun w => w.cell? ⟨b, 0, none⟩ = some (.slice A xs.length c)) none (by kernel_rfl) (fun w1 hw1 => ?_)
  have hst1 := hst.idle (drew_fr _)
  rw [← hw1] at hst1
  clear hw1
  have hb1 := tmod_bd k xs.length hl
  have hS : (fun w => w.cell? ⟨b, 0, none⟩ = some (.slice A xs.length c)) w1 := hst1.cell (i := 0) rfl rfl
  refine Any.take 0 rfl rfl rfl rfl (by kernel_rfl) panic_body (Ex.move rfl).s hS ?_
  refine Any.take 1 rfl rfl rfl rfl (by kernel_rfl) panic_body (Ex.move rfl).s hS ?_
  refine Any.take 2 rfl rfl rfl rfl (by kernel_rfl) panic_body (Ex.nilCheck rfl).s hS ?_
  refine Any.take 3 rfl rfl rfl rfl (by kernel_rfl) panic_body (Ex.fieldAddr rfl Try.underlying58 rfl sz56).s hS ?_
  refine Any.take 4 rfl rfl rfl rfl (by kernel_rfl) panic_body (ExS.load rfl Try.underlying56 rfl (fun w hS => hS)) hS ?_
  refine Any.take 5 rfl rfl rfl rfl (by kernel_rfl) panic_body (Ex.len rfl rfl rfl Try.underlying56).s hS ?_
  first | refine Any.take 6 rfl rfl rfl rfl (by kernel_rfl) panic_body (Ex.remI rfl rfl  (by omega) (by omega)).s hS ?_ | refine Any.take 6 rfl rfl rfl rfl (by kernel_rfl) panic_body (Ex.rem rfl rfl  (by omega)).s hS ?_
  refine Any.take 7 rfl rfl rfl rfl (by kernel_rfl) panic_body (Ex.move rfl).s hS ?_
  refine Any.take 8 rfl rfl rfl rfl (by kernel_rfl) panic_body (Ex.nilCheck rfl).s hS ?_
  refine Any.take 9 rfl rfl rfl rfl (by kernel_rfl) panic_body (Ex.fieldAddr rfl Try.underlying58 rfl sz56).s hS ?_
  refine Any.take 10 rfl rfl rfl rfl (by kernel_rfl) panic_body (ExS.load rfl Try.underlying56 rfl (fun w hS => hS)) hS ?_
  refine Any.take 11 rfl rfl rfl rfl (by kernel_rfl) panic_body (Ex.len rfl rfl rfl Try.underlying56).s hS ?_
  first | refine Any.take 12 rfl rfl rfl rfl (by kernel_rfl) panic_body (Ex.addI rfl rfl  (by omega) (by omega)).s hS ?_ | refine Any.take 12 rfl rfl rfl rfl (by kernel_rfl) panic_body (Ex.add rfl rfl).s hS ?_
  refine Any.take 13 rfl rfl rfl rfl (by kernel_rfl) panic_body (Ex.move rfl).s hS ?_
  refine Any.take 14 rfl rfl rfl rfl (by kernel_rfl) panic_body (Ex.nilCheck rfl).s hS ?_
  refine Any.take 15 rfl rfl rfl rfl (by kernel_rfl) panic_body (Ex.fieldAddr rfl Try.underlying58 rfl sz56).s hS ?_
  refine Any.take 16 rfl rfl rfl rfl (by kernel_rfl) panic_body (ExS.load rfl Try.underlying56 rfl (fun w hS => hS)) hS ?_
  refine Any.take 17 rfl rfl rfl rfl (by kernel_rfl) panic_body (Ex.len rfl rfl rfl Try.underlying56).s hS ?_
  first | refine Any.take 18 rfl rfl rfl rfl (by kernel_rfl) panic_body (Ex.remI rfl rfl  (by omega) (by omega)).s hS ?_ | refine Any.take 18 rfl rfl rfl rfl (by kernel_rfl) panic_body (Ex.rem rfl rfl  (by omega)).s hS ?_
  refine Any.take 19 rfl rfl rfl rfl (by kernel_rfl) panic_body (Ex.assign rfl).s hS ?_
  refine Any.done (by kernel_rfl) ?_
  refine Run.ret _ rfl (fun a ha => res1 rfl rfl ha) ?_
  rw [emod_i k _ hl, hi]
  exact ⟨rfl, hst1⟩

set_option maxRecDepth 100000 in
set_option maxHeartbeats 2000000 in
theorem sTake0 (b : Nat) (v : Value) (lost k : Int) (w : World) (hst : Owns (sNet b v [] lost) w) :
    Calls Try.prog 25 #[.pointer (some ⟨b, 0, none⟩), .int .i64 k] w fun e w' => e = .returned (.tuple #[.string ⟨#[]⟩, .bool false]) ∧ w' = w := by
  refine calls_of_run Try.func25 rfl rfl ?_
  refine Run.seq ?_
  refine Run.region ?_
  refine Ops.assign rfl rfl ?_
  refine Ops.assign rfl rfl ?_
  refine Ops.nil ?_
  refine Run.seq ?_
  refine Run.region ?_
  refine Ops.move rfl rfl ?_
  refine Ops.move rfl rfl ?_
  refine Ops.call rfl rfl Try.func36 (by kernel_rfl) (by kernel_rfl) rfl (sPlace0 b v lost k w hst) ?_
  rintro x w1 ⟨rfl, rfl⟩
  refine ⟨_, rfl, ?_⟩
  refine Ops.assign rfl rfl ?_
  refine Ops.nil ?_
  refine Run.seq ?_
  refine Run.seq ?_
  refine Run.region ?_
  refine Ops.move rfl rfl ?_
  refine Ops.lss rfl rfl rfl ?_
  refine Ops.nil ?_
  refine Run.condT rfl (rfl) ?_
  refine Run.seq ?_
  refine Run.region ?_
  refine Ops.assign rfl rfl ?_
  refine Ops.nil ?_
  refine Run.seq ?_
  refine Run.region ?_
  refine Ops.move rfl rfl ?_
  refine Ops.assign rfl rfl ?_
  refine Ops.assign rfl rfl ?_
  refine Ops.nil ?_
  refine Run.ret _ rfl (fun a ha => res2 rfl rfl rfl ha) ?_
  exact ⟨rfl, rfl⟩

set_option maxRecDepth 100000 in
set_option maxHeartbeats 2000000 in
theorem sTake (b : Nat) (v : Value) (xs : List ByteArray) (lost k : Int) (i : Nat) (x : ByteArray) (w : World) (hl2 : xs.length ≤ 1000) (hi : k % xs.length = i) (hx : xs[i]? = some x) (hst : Owns (sNet b v xs lost) w) :
    Calls Try.prog 25 #[.pointer (some ⟨b, 0, none⟩), .int .i64 k] w fun e w' => e = .returned (.tuple #[Value.string x, .bool true]) ∧ ∃ v', St w (fps (sNet b v xs lost)) (sNet b v' (xs.eraseIdx i) lost) w' := by
  have hlt : i < xs.length := by
    rcases Nat.lt_or_ge i xs.length with h | h
    · exact h
    · rw [List.getElem?_eq_none h] at hx; cases hx
  obtain ⟨A, c, rfl, hc, hpos⟩ := (hst.rd (i := 1) rfl).shape
  obtain ⟨g, o, rfl⟩ := hpos (by omega)
  have hcm := (own_cap (hst.get (i := 1) rfl)).2.2
  refine calls_of_run Try.func25 rfl rfl ?_
  refine Run.seq ?_
  refine Run.region ?_
  refine Ops.assign rfl rfl ?_
  refine Ops.assign rfl rfl ?_
  refine Ops.nil ?_
  refine Run.seq ?_
  refine Run.region ?_
  refine Ops.move rfl rfl ?_
  refine Ops.move rfl rfl ?_
  refine Ops.call rfl rfl Try.func36 (by kernel_rfl) (by kernel_rfl) rfl (sPlace b _ xs lost k i w (by omega) hl2 hi hst) ?_
  rintro x w1 ⟨rfl, hst1⟩
  refine ⟨_, rfl, ?_⟩ --ST hst1
  refine Ops.assign rfl rfl ?_
  refine Ops.nil ?_
  refine Run.seq ?_
  refine Run.seq ?_
  refine Run.region ?_
  refine Ops.move rfl rfl ?_
  refine Ops.lss rfl rfl rfl ?_
  refine Ops.nil ?_
  refine Run.condF rfl ((by simp)) ?_
  refine Run.skip ?_
  refine Run.seq ?_
  refine Run.region ?_
  refine Ops.move rfl rfl ?_
  refine Ops.nilCheck rfl rfl ?_
  refine Ops.fieldAddr rfl Try.underlying58 rfl sz56 rfl ?_
  refine Ops.load rfl Try.underlying56 rfl (by first | exact hst1.cell (i := 0) rfl rfl | exact hst1.cell (i := 1) rfl rfl | exact hst1.cell (i := 2) rfl rfl | assumption) rfl ?_
  refine Ops.move rfl rfl ?_
  refine Ops.indexAddr (j := i) rfl rfl Try.underlying56 sz9 rfl (by omega) (by omega) (by simp) rfl ?_
  refine Ops.load rfl Try.underlying9 rfl ((hst1.rd (i := 1) rfl).cell (j := i) (by rw [List.getElem?_map, hx]; rfl)) rfl ?_
  refine Ops.assign rfl rfl ?_
  refine Ops.nil ?_
  refine Run.seq ?_
  refine Run.draw (fun w => w.cell? ⟨b, 0, none⟩ = some (.slice (some ⟨g, o, none⟩) xs.length c)) (some 18) (by kernel_rfl) (fun w1 hw1 => ?_)
  have hst1 := hst1.idle (drew_fr _)
  rw [← hw1] at hst1
  clear hw1
  have hS : (fun w => w.cell? ⟨b, 0, none⟩ = some (.slice (some ⟨g, o, none⟩) xs.length c)) w1 := hst1.cell (i := 0) rfl rfl
  refine Any.take 0 rfl rfl rfl rfl (by kernel_rfl) panic_body (Ex.move rfl).s hS ?_
  refine Any.take 1 rfl rfl rfl rfl (by kernel_rfl) panic_body (Ex.move rfl).s hS ?_
  refine Any.take 2 rfl rfl rfl rfl (by kernel_rfl) panic_body (Ex.nilCheck rfl).s hS ?_
  refine Any.take 3 rfl rfl rfl rfl (by kernel_rfl) panic_body (Ex.fieldAddr rfl Try.underlying58 rfl sz56).s hS ?_
  refine Any.take 4 rfl rfl rfl rfl (by kernel_rfl) panic_body (ExS.load rfl Try.underlying56 rfl (fun w hS => hS)) hS ?_
  refine Any.take 5 rfl rfl rfl rfl (by kernel_rfl) panic_body (Ex.move rfl).s hS ?_
  refine Any.take 6 rfl rfl rfl rfl (by kernel_rfl) panic_body (Ex.move rfl).s hS ?_
  refine Any.take (v := .slice (some ⟨g, o, none⟩) i i) 7 rfl rfl rfl rfl (by kernel_rfl) panic_body (Ex.eq (Ex.cut3 (i := 0) (j := i) (q := i) rfl Try.underlying56 sz9 rfl rfl rfl (by omega) (by omega) (by omega) (by omega)) (by simp [addr_add])).s hS ?_
  refine Any.take 8 rfl rfl rfl rfl (by kernel_rfl) panic_body (Ex.move rfl).s hS ?_
  refine Any.take 9 rfl rfl rfl rfl (by kernel_rfl) panic_body (Ex.nilCheck rfl).s hS ?_
  refine Any.take 10 rfl rfl rfl rfl (by kernel_rfl) panic_body (Ex.fieldAddr rfl Try.underlying58 rfl sz56).s hS ?_
  refine Any.take 11 rfl rfl rfl rfl (by kernel_rfl) panic_body (ExS.load rfl Try.underlying56 rfl (fun w hS => hS)) hS ?_
  refine Any.take 12 rfl rfl rfl rfl (by kernel_rfl) panic_body (Ex.move rfl).s hS ?_
  first | refine Any.take 13 rfl rfl rfl rfl (by kernel_rfl) panic_body (Ex.addI rfl rfl  (by omega) (by omega)).s hS ?_ | refine Any.take 13 rfl rfl rfl rfl (by kernel_rfl) panic_body (Ex.add rfl rfl).s hS ?_
  obtain ⟨A', hA'⟩ : ∃ A', A' = (if c = i + 1 then some (⟨g, o, none⟩ : Addr) else (some (⟨g, o, none⟩ : Addr)).map (·.add ((i + 1) * 1))) := ⟨_, rfl⟩
  refine Any.take (v := .slice A' (xs.length - (i + 1)) (c - (i + 1))) 14 rfl rfl rfl rfl (by kernel_rfl) panic_body (Ex.eq (Ex.cut (i := (i : Int) + 1) (j := xs.length) rfl Try.underlying56 sz9 rfl rfl (by omega) (by omega) (by omega)) (by rw [hA']; simp [show ((i : Int) + 1).toNat = i + 1 from by omega])).s hS ?_
  have hrd := hst1.rd (i := 1) rfl
  have htail := hrd.sub (i + 1) xs.length (c - (i + 1)) (by omega) (Nat.le_refl _) (by omega) A' (by rw [hA']; by_cases h : c = i + 1; (rw [if_pos h]; exact .inr ⟨rfl, by omega⟩); (rw [if_neg h]; exact .inl rfl))
  have hst3 := hst1.cut 1 rfl 0 i i (Nat.zero_le _) (by omega) (Nat.le_refl _) (by omega) (some ⟨g, o, none⟩) (.inr ⟨rfl, rfl⟩)
  have hmx : xs.length ≤ maxLen := by simp only [maxLen]; omega
  refine Any.one 15 (by kernel_rfl) rfl rfl (One.of_ops rfl ?_)
  refine Ops.append 1 hst3 rfl rfl rfl rfl rfl Try.underlying56 sinfo rfl (by omega) htail (by omega) (by omega) rfl (fun v' w3 hst4 hnil => Ops.stop ⟨.inr (hst4.cell (i := 0) rfl rfl), ?_⟩)
  have hS := hst4.cell (i := 0) (o := 0) rfl rfl
  have hv' := vof (hst4.get (i := 1) rfl) --ST hst4
  refine Any.take 16 rfl rfl rfl rfl (by kernel_rfl) panic_body (Ex.nilCheck rfl).s hS ?_
  refine Any.take 17 rfl rfl rfl rfl (by kernel_rfl) panic_body (Ex.fieldAddr rfl Try.underlying58 rfl sz56).s hS ?_
  refine Any.one 18 (by kernel_rfl) rfl rfl (One.of_ops rfl ?_)
  refine Ops.store 0 [v'] hst4 rfl rfl rfl (vcells v' hv') sz56 rfl (vone v' hv') (by simp) (fun w4 hst5 => Ops.stop ⟨.inl rfl, ?_⟩) --ST hst5
  refine Any.done (by kernel_rfl) ?_
  refine Run.seq ?_
  refine Run.region ?_
  refine Ops.move rfl rfl ?_
  refine Ops.assign rfl rfl ?_
  refine Ops.assign rfl rfl ?_
  refine Ops.nil ?_
  refine Run.ret _ rfl (fun a ha => res2 rfl rfl rfl ha) ?_
  have h6 : St w (fps (sNet b (.slice (some ⟨g, o, none⟩) xs.length c) xs lost)) [blk b [v', .int .i64 lost] 58, orow 9 1 v' (i - 0 + (xs.length - (i + 1))) (((xs.map (Value.string)).drop (0 * 1)).take ((i - 0) * 1) ++ ((xs.map (Value.string)).drop ((i + 1) * 1)).take ((xs.length - (i + 1)) * 1))] w4 := hst5
  have hE : (((xs.map (Value.string)).drop (0 * 1)).take ((i - 0) * 1) ++ ((xs.map (Value.string)).drop ((i + 1) * 1)).take ((xs.length - (i + 1)) * 1)) = (xs.eraseIdx i).map (Value.string) := by
    rw [List.eraseIdx_eq_take_drop_succ, List.map_append, List.map_take, List.map_drop]
    simp
    exact List.take_of_length_le (by simp)
  have hn : i - 0 + (xs.length - (i + 1)) = (xs.eraseIdx i).length := by rw [List.length_eraseIdx_of_lt hlt]; omega
  rw [hE, hn] at h6
  exact ⟨rfl, v', h6⟩

end Go.Proofs.Ytiijlkebolfcpaa.Net
