/- Net: walks. -/
import Derived.Test.YtiijlkebolfcpaaNet2
namespace Go.Proofs.Ytiijlkebolfcpaa.Net3
open Go Go.RowKit Go.Proofs.Ytiijlkebolfcpaa.Sx Go.Proofs.Ytiijlkebolfcpaa.Net Go.Proofs.Ytiijlkebolfcpaa.Net2
set_option linter.unusedVariables false
set_option linter.unusedSimpArgs false
theorem sz3 : (Try.prog.info? 3).map (·.size) = some 1 := by kernel_rfl
theorem sz41 : (Try.prog.info? 41).map (·.size) = some 1 := by kernel_rfl
set_option maxRecDepth 100000 in
set_option maxHeartbeats 2000000 in
theorem iAll (b : Nat) (w : World) (hst : St w (fps []) [] w) :
    Calls Try.prog 29 #[.pointer (some ⟨b, 0, none⟩)] w fun e w' => ∃ c, e = .returned (.func (.func 37) #[] #[.pointer (some ⟨c, 0, none⟩)]) ∧ St w (fps []) [blk c [.pointer (some ⟨b, 0, none⟩)] 40] w' := by
  refine calls_of_run Try.func29 rfl rfl ?_
  refine Run.seq ?_
  refine Run.region ?_
  refine Ops.box _ hst rfl rfl rfl (fun g1 w1 hst1 hg1 => ?_)
  refine Ops.assign rfl rfl ?_
  refine Ops.nil ?_
  refine Run.seq ?_
  refine Run.region ?_
  refine Ops.funcE rfl rfl rfl ?_
  refine Ops.assign rfl rfl ?_
  refine Ops.nil ?_
  refine Run.ret _ rfl (fun a ha => res1 rfl rfl ha) ?_
  exact ⟨_, rfl, hst1⟩

set_option maxRecDepth 100000 in
theorem iIter (b c : Nat) (v : Value) (xs : List Int) (hxs : xs.length ≤ 1000) : Iter Try.prog 37 #[.pointer (some ⟨c, 0, none⟩)] xs.length (fun i => #[.int .i64 (xs.getD i 0)]) (fun W => W.cell? ⟨c, 0, none⟩ = some (.pointer (some ⟨b, 0, none⟩)) ∧ W.cell? ⟨b, 0, none⟩ = some v ∧ Rd W 1 v xs.length (xs.map (Value.int .i64))) := by
  intro l J Jx W hy hRf hfr h0
  obtain ⟨h1, h2, h3⟩ := hRf 0 W h0
  obtain ⟨A, cp, rfl, hc, hpos⟩ := h3.shape
  refine calls_of_run Try.func37 rfl rfl ?_
  refine Run.seq ?_
  refine Run.region ?_
  refine Ops.load rfl Try.underlying40 rfl (by first | exact hst.cell (i := 0) rfl rfl | exact hst.cell (i := 1) rfl rfl | exact hst.cell (i := 2) rfl rfl | assumption) rfl ?_
  refine Ops.nilCheck rfl rfl ?_
  refine Ops.fieldAddr rfl Try.underlying43 rfl sz41 rfl ?_
  refine Ops.load rfl Try.underlying41 rfl (by first | exact hst.cell (i := 0) rfl rfl | exact hst.cell (i := 1) rfl rfl | exact hst.cell (i := 2) rfl rfl | assumption) rfl ?_
  refine Ops.len rfl rfl rfl Try.underlying41 rfl ?_
  refine Ops.move rfl rfl ?_
  refine Ops.nil ?_
  refine Run.block ?_
  refine Run.sub (e' := [(0, .func (.yield l) #[] #[]), (8, .slice A xs.length cp), (9, .int .i64 (xs.length : Int)), (10, .int .i64 0)]) (subB_spec ⟨rfl, rfl, rfl, rfl, trivial⟩) ?_
  refine Run.loop (fun fuel e' w' => ∃ i : Nat, e' = [(0, .func (.yield l) #[] #[]), (8, .slice A xs.length cp), (9, .int .i64 (xs.length : Int)), (10, .int .i64 (i : Int))] ∧ i ≤ xs.length ∧ fuel = xs.length - i ∧ J i w') xs.length ⟨0, rfl, by omega, by omega, h0⟩ ?_
  rintro fuel e' w4 ⟨i, rfl, hi, rfl, hJ⟩
  refine Run.seq ?_
  refine Run.region ?_
  refine Ops.lss rfl rfl rfl ?_
  refine Ops.nil ?_
  refine Run.seq ?_
  refine Run.cond rfl (fun hc11 => ?_) (fun hc11 => ?_)
  · skip
    have hlt : i < xs.length := by have := of_decide_eq_true hc11; omega
    obtain ⟨g, o, rfl⟩ := hpos (by omega)
    refine Run.skip ?_
    refine Run.seq ?_
    refine Run.block ?_
    refine Run.seq ?_
    refine Run.region ?_
    refine Ops.indexAddr (j := i) rfl rfl Try.underlying41 sz3 rfl (by omega) (by omega) (by first | rfl | (simp; done) | (simp; omega) | omega) rfl ?_
    refine Ops.load rfl Try.underlying3 rfl ((hRf i w4 hJ).2.2.cell (j := i) (by rw [List.getElem?_map, List.getElem?_eq_getElem hlt]; rfl)) rfl ?_
    refine Ops.assign rfl rfl ?_
    refine Ops.nil ?_
    refine Run.seq ?_
    refine Run.region ?_
    refine Ops.move rfl rfl ?_
    refine Ops.move rfl rfl ?_
    refine Ops.re 15 (v' := .int .i64 (xs.getD i 0)) rfl (by rw [List.getD_eq_getElem?_getD, List.getElem?_eq_getElem hlt]; rfl) ?_
    refine Ops.yield rfl rfl rfl (hy i _ hlt hJ) (fun x w5 hR => ?_)
    obtain ⟨xb, hx, hx1, hx2⟩ : ∃ xb : Bool, x = .returned (.bool xb) ∧ (xb = true → J (i + 1) w5) ∧ (xb = false → Jx w5) := by
      rcases hR with ⟨h, h2⟩ | ⟨h, h2⟩
      · exact ⟨true, h, fun _ => h2, fun h => (by cases h)⟩
      · exact ⟨false, h, fun h => (by cases h), fun _ => h2⟩
    refine ⟨_, hx, ?_⟩
    refine Ops.not rfl rfl ?_
    refine Ops.nil ?_
    refine Run.cond rfl (fun hc17 => ?_) (fun hc17 => ?_)
    · skip
      refine Run.ret _ rfl (fun a ha => res0 rfl ha) ?_
      first
      | exact ⟨⟨_, rfl⟩, .inr (hx2 (by simpa using hc17))⟩
      | exact ⟨⟨_, rfl⟩, .inl (by have := of_decide_eq_false hc11; rw [show xs.length = i from by omega]; exact hJ)⟩
    · skip
      refine Run.skip ?_
      refine Run.endBlk ?_
      refine Run.region ?_
      first | refine Ops.addI rfl rfl rfl (by omega) (by omega) ?_ | refine Ops.add rfl rfl rfl ?_
      refine Ops.move rfl rfl ?_
      refine Ops.nil ?_
      refine Run.sub (e' := [(0, .func (.yield l) #[] #[]), (8, .slice (some ⟨g, o, none⟩) xs.length cp), (9, .int .i64 (xs.length : Int)), (10, .int .i64 ((i + 1 : Nat) : Int))]) (subB_spec ⟨rfl, rfl, rfl, rfl, trivial⟩) (Run.stop ⟨xs.length - (i + 1), by omega, i + 1, rfl, by omega, rfl, hx1 (by simpa using hc17)⟩)
  · skip
    refine Run.exit _ rfl ?_
    refine Run.done _ rfl (fun a ha => res0 rfl ha) ?_
    first
    | exact ⟨⟨_, rfl⟩, .inr (hx2 (by simpa using hc17))⟩
    | exact ⟨⟨_, rfl⟩, .inl (by have := of_decide_eq_false hc11; rw [show xs.length = i from by omega]; exact hJ)⟩

end Go.Proofs.Ytiijlkebolfcpaa.Net3
