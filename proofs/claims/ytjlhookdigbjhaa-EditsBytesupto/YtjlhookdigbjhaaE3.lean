/- Edits: laws. -/
import Derived.Test.YtjlhookdigbjhaaE2
namespace Go.Proofs.Ytjlhookdigbjhaa.E3
open Go Go.RowKit Go.Proofs.Ytjlhookdigbjhaa.Sx Go.Proofs.Ytjlhookdigbjhaa.E1 Go.Proofs.Ytjlhookdigbjhaa.E2
set_option linter.unusedVariables false
set_option linter.unusedSimpArgs false
theorem zr5 : (Try.prog.info? 5).map (·.zero) = some (some (.int .u8 0)) := by kernel_rfl
theorem zr32 : (Try.prog.info? 32).map (·.zero) = some (some (.agg #[.slice none 0 0, .slice none 0 0, .int .u8 0, .bool false, .string ⟨#[]⟩, .int .i64 0, .int .i64 0, .int .i64 0])) := by kernel_rfl
theorem pl32 {fs : Array Field} (h : Try.prog.underlying 32 = some (.struct fs)) (w : World) : (fs.mapM fun f => do pure (f.offset, ← sizeOf f.type) : Sem (Array (Nat × Nat))).run Try.prog w = .ok #[(0, 1), (1, 1), (2, 1), (3, 1), (4, 4)] w := by
  rw [Try.underlying32] at h
  cases h
  kernel_rfl
theorem sz32 : (Try.prog.info? 32).map (·.size) = some 8 := by kernel_rfl
set_option maxRecDepth 100000 in
theorem eqv24 (d : Nat) (x y : apiRef) : EqV Try.prog (d + 2) 24 (.agg #[vs x.Name, vi x.Kind, vi x.From, vi x.To]) (.agg #[vs y.Name, vi y.Kind, vi y.From, vi y.To]) (decide (x = y)) := by
  refine EqV.re (EqV.agg Try.underlying24 (by kernel_rfl) ⟨_, _, _, _, by decide, fun w => rfl, fun w => rfl, EqV.str Try.underlying9, ⟨_, _, _, _, by decide, fun w => rfl, fun w => rfl, EqV.int Try.underlying22, ⟨_, _, _, _, by decide, fun w => rfl, fun w => rfl, EqV.int Try.underlying3, ⟨_, _, _, _, by decide, fun w => rfl, fun w => rfl, EqV.int Try.underlying3, rfl, rfl⟩, rfl⟩, rfl⟩, rfl⟩) ?_
  obtain ⟨x0, x1, x2, x3⟩ := x
  obtain ⟨y0, y1, y2, y3⟩ := y
  rw [Bool.eq_iff_iff]
  simp [apiRef.mk.injEq]
def go_law10_may (p0 : apiRef) : Option Bool :=
  if 0 < (p0.Name.length : Int) then (if (p0.Name.length : Int) < 17 then (if 0 ≤ p0.Kind then (if p0.Kind < 3 then (if 0 ≤ p0.From then (if p0.From ≤ p0.To then (if p0.To ≤ 1048576 then (if 0 < p0.Kind then (some true) else (some (decide (p0.From = p0.To)))) else (some false)) else (some false)) else (some false)) else (some false)) else (some false)) else (some false)) else (some false)
set_option maxRecDepth 100000 in
set_option maxHeartbeats 4000000 in
theorem go_law10_may.walk {w0 w : World} {X : List Res} {z0 : Zp} {p0 : apiRef} {r : Bool} (hst : Ht w0 (frz z0 :: X) w) (hf : go_law10_may p0 = some r) :
    Calls Try.prog 14 #[.agg #[vs p0.Name, vi p0.Kind, vi p0.From, vi p0.To]] w fun e w' => ∃ (z' : Zp), e = .returned (vb r) ∧ Le z0 z' ∧ Ht w0 (frz z' :: X) w' := by
  refine calls_np Try.func14 rfl rfl ?_
  have hle0 := Le.refl z0
  unfold go_law10_may at hf
  refine Run.seq ?_
  refine Run.region ?_
  refine Ops.boxF [vs p0.Name, vi p0.Kind, vi p0.From, vi p0.To] hst rfl rfl rfl (fun g5 w5 hst5 => ?_)
  refine Ops.ex (Ex.assign rfl) rfl rfl rfl ?_
  refine Ops.nil ?_
  refine Run.seq ?_
  refine Run.region ?_
  refine Ops.ex (Ex.fieldAddr rfl Try.underlying24 rfl sz9) rfl rfl rfl ?_
  refine Ops.load rfl Try.underlying9 rfl (hst5.cell (i := 1) rfl rfl) rfl ?_
  refine Ops.ex (Ex.lenT rfl rfl rfl Try.underlying9) rfl rfl rfl ?_
  refine Ops.ex (Ex.gtr rfl rfl) rfl rfl rfl ?_
  refine Ops.ex (Ex.move rfl) rfl rfl rfl ?_
  refine Ops.case 7 rfl (fun hc => ?_) (fun hc => ?_)
  · replace hf := ifT (dec_T hc) hf
    refine Ops.on rfl ?_
    refine Ops.ex (Ex.fieldAddr rfl Try.underlying24 rfl sz9) rfl rfl rfl ?_
    refine Ops.on rfl ?_
    refine Ops.load rfl Try.underlying9 rfl (hst5.cell (i := 1) rfl rfl) rfl ?_
    refine Ops.on rfl ?_
    refine Ops.ex (Ex.lenT rfl rfl rfl Try.underlying9) rfl rfl rfl ?_
    refine Ops.on rfl ?_
    refine Ops.ex (Ex.lss rfl rfl) rfl rfl rfl ?_
    refine Ops.ex (Ex.pickT rfl rfl) rfl rfl rfl ?_
    refine Ops.ex (Ex.move rfl) rfl rfl rfl ?_
    refine Ops.case 13 rfl (fun hc => ?_) (fun hc => ?_)
    · replace hf := ifT (dec_T hc) hf
      refine Ops.on rfl ?_
      refine Ops.ex (Ex.fieldAddr rfl Try.underlying24 rfl sz22) rfl rfl rfl ?_
      refine Ops.on rfl ?_
      refine Ops.load rfl Try.underlying22 rfl (hst5.cell (i := 1) rfl rfl) rfl ?_
      refine Ops.on rfl ?_
      refine Ops.ex (Ex.geq rfl rfl) rfl rfl rfl ?_
      refine Ops.ex (Ex.pickT rfl rfl) rfl rfl rfl ?_
      refine Ops.ex (Ex.move rfl) rfl rfl rfl ?_
      refine Ops.case 18 rfl (fun hc => ?_) (fun hc => ?_)
      · replace hf := ifT (dec_T hc) hf
        refine Ops.on rfl ?_
        refine Ops.ex (Ex.fieldAddr rfl Try.underlying24 rfl sz22) rfl rfl rfl ?_
        refine Ops.on rfl ?_
        refine Ops.load rfl Try.underlying22 rfl (hst5.cell (i := 1) rfl rfl) rfl ?_
        refine Ops.on rfl ?_
        refine Ops.ex (Ex.lss rfl rfl) rfl rfl rfl ?_
        refine Ops.ex (Ex.pickT rfl rfl) rfl rfl rfl ?_
        refine Ops.ex (Ex.move rfl) rfl rfl rfl ?_
        refine Ops.case 23 rfl (fun hc => ?_) (fun hc => ?_)
        · replace hf := ifT (dec_T hc) hf
          refine Ops.on rfl ?_
          refine Ops.ex (Ex.fieldAddr rfl Try.underlying24 rfl sz3) rfl rfl rfl ?_
          refine Ops.on rfl ?_
          refine Ops.load rfl Try.underlying3 rfl (hst5.cell (i := 1) rfl rfl) rfl ?_
          refine Ops.on rfl ?_
          refine Ops.ex (Ex.geq rfl rfl) rfl rfl rfl ?_
          refine Ops.ex (Ex.pickT rfl rfl) rfl rfl rfl ?_
          refine Ops.ex (Ex.move rfl) rfl rfl rfl ?_
          refine Ops.case 28 rfl (fun hc => ?_) (fun hc => ?_)
          · replace hf := ifT (dec_T hc) hf
            refine Ops.on rfl ?_
            refine Ops.ex (Ex.fieldAddr rfl Try.underlying24 rfl sz3) rfl rfl rfl ?_
            refine Ops.on rfl ?_
            refine Ops.load rfl Try.underlying3 rfl (hst5.cell (i := 1) rfl rfl) rfl ?_
            refine Ops.on rfl ?_
            refine Ops.ex (Ex.fieldAddr rfl Try.underlying24 rfl sz3) rfl rfl rfl ?_
            refine Ops.on rfl ?_
            refine Ops.load rfl Try.underlying3 rfl (hst5.cell (i := 1) rfl rfl) rfl ?_
            refine Ops.on rfl ?_
            refine Ops.ex (Ex.leq rfl rfl) rfl rfl rfl ?_
            refine Ops.ex (Ex.pickT rfl rfl) rfl rfl rfl ?_
            refine Ops.ex (Ex.move rfl) rfl rfl rfl ?_
            refine Ops.case 35 rfl (fun hc => ?_) (fun hc => ?_)
            · replace hf := ifT (dec_T hc) hf
              refine Ops.on rfl ?_
              refine Ops.ex (Ex.fieldAddr rfl Try.underlying24 rfl sz3) rfl rfl rfl ?_
              refine Ops.on rfl ?_
              refine Ops.load rfl Try.underlying3 rfl (hst5.cell (i := 1) rfl rfl) rfl ?_
              refine Ops.on rfl ?_
              refine Ops.ex (Ex.leq rfl rfl) rfl rfl rfl ?_
              refine Ops.ex (Ex.pickT rfl rfl) rfl rfl rfl ?_
              refine Ops.ex (Ex.move rfl) rfl rfl rfl ?_
              refine Ops.case 40 rfl (fun hc => ?_) (fun hc => ?_)
              · replace hf := ifT (dec_T hc) hf
                refine Ops.on rfl ?_
                refine Ops.ex (Ex.fieldAddr rfl Try.underlying24 rfl sz22) rfl rfl rfl ?_
                refine Ops.on rfl ?_
                refine Ops.load rfl Try.underlying22 rfl (hst5.cell (i := 1) rfl rfl) rfl ?_
                refine Ops.on rfl ?_
                refine Ops.ex (Ex.gtr rfl rfl) rfl rfl rfl ?_
                refine Ops.on rfl ?_
                refine Ops.ex (Ex.move rfl) rfl rfl rfl ?_
                refine Ops.case 44 rfl (fun hc => ?_) (fun hc => ?_)
                · replace hf := ifT (dec_T hc) hf
                  refine Ops.off rfl rfl ?_
                  refine Ops.off rfl rfl ?_
                  refine Ops.off rfl rfl ?_
                  refine Ops.off rfl rfl ?_
                  refine Ops.off rfl rfl ?_
                  refine Ops.on rfl ?_
                  refine Ops.ex (Ex.pickT rfl rfl) rfl rfl rfl ?_
                  refine Ops.ex (Ex.pickT rfl rfl) rfl rfl rfl ?_
                  refine Ops.ex (Ex.assign rfl) rfl rfl rfl ?_
                  refine Ops.nil ?_
                  obtain rfl := Option.some.inj hf
                  exact Run.retV [vb true] rfl ⟨rfl, trivial⟩ ⟨z0, rfl, hle0, (St.forget hst5 1)⟩
                · replace hf := ifF (dec_F hc) hf
                  refine Ops.on rfl ?_
                  refine Ops.ex (Ex.fieldAddr rfl Try.underlying24 rfl sz3) rfl rfl rfl ?_
                  refine Ops.on rfl ?_
                  refine Ops.load rfl Try.underlying3 rfl (hst5.cell (i := 1) rfl rfl) rfl ?_
                  refine Ops.on rfl ?_
                  refine Ops.ex (Ex.fieldAddr rfl Try.underlying24 rfl sz3) rfl rfl rfl ?_
                  refine Ops.on rfl ?_
                  refine Ops.load rfl Try.underlying3 rfl (hst5.cell (i := 1) rfl rfl) rfl ?_
                  refine Ops.on rfl ?_
                  refine Ops.ex (Ex.eqlI rfl rfl) rfl rfl rfl ?_
                  refine Ops.on rfl ?_
                  refine Ops.ex (Ex.pickF rfl rfl) rfl rfl rfl ?_
                  refine Ops.ex (Ex.pickT rfl rfl) rfl rfl rfl ?_
                  refine Ops.ex (Ex.assign rfl) rfl rfl rfl ?_
                  refine Ops.nil ?_
                  obtain rfl := Option.some.inj hf
                  exact Run.retV [vb (decide (p0.From = p0.To))] rfl ⟨rfl, trivial⟩ ⟨z0, rfl, hle0, (St.forget hst5 1)⟩
              · replace hf := ifF (dec_F hc) hf
                refine Ops.off rfl rfl ?_
                refine Ops.off rfl rfl ?_
                refine Ops.off rfl rfl ?_
                refine Ops.off rfl rfl ?_
                refine Ops.offU rfl rfl ?_
                refine Ops.offU rfl rfl ?_
                refine Ops.offU rfl rfl ?_
                refine Ops.offU rfl rfl ?_
                refine Ops.offU rfl rfl ?_
                refine Ops.off rfl rfl ?_
                refine Ops.ex (Ex.pickF rfl rfl) rfl rfl rfl ?_
                refine Ops.ex (Ex.assign rfl) rfl rfl rfl ?_
                refine Ops.nil ?_
                obtain rfl := Option.some.inj hf
                exact Run.retV [vb false] rfl ⟨rfl, trivial⟩ ⟨z0, rfl, hle0, (St.forget hst5 1)⟩
            · replace hf := ifF (dec_F hc) hf
              refine Ops.off rfl rfl ?_
              refine Ops.off rfl rfl ?_
              refine Ops.off rfl rfl ?_
              refine Ops.ex (Ex.pickF rfl rfl) rfl rfl rfl ?_
              refine Ops.ex (Ex.move rfl) rfl rfl rfl ?_
              refine Ops.off rfl rfl ?_
              refine Ops.off rfl rfl ?_
              refine Ops.off rfl rfl ?_
              refine Ops.off rfl rfl ?_
              refine Ops.offU rfl rfl ?_
              refine Ops.offU rfl rfl ?_
              refine Ops.offU rfl rfl ?_
              refine Ops.offU rfl rfl ?_
              refine Ops.offU rfl rfl ?_
              refine Ops.off rfl rfl ?_
              refine Ops.ex (Ex.pickF rfl rfl) rfl rfl rfl ?_
              refine Ops.ex (Ex.assign rfl) rfl rfl rfl ?_
              refine Ops.nil ?_
              obtain rfl := Option.some.inj hf
              exact Run.retV [vb false] rfl ⟨rfl, trivial⟩ ⟨z0, rfl, hle0, (St.forget hst5 1)⟩
          · replace hf := ifF (dec_F hc) hf
            refine Ops.off rfl rfl ?_
            refine Ops.off rfl rfl ?_
            refine Ops.off rfl rfl ?_
            refine Ops.off rfl rfl ?_
            refine Ops.off rfl rfl ?_
            refine Ops.ex (Ex.pickF rfl rfl) rfl rfl rfl ?_
            refine Ops.ex (Ex.move rfl) rfl rfl rfl ?_
            refine Ops.off rfl rfl ?_
            refine Ops.off rfl rfl ?_
            refine Ops.off rfl rfl ?_
            refine Ops.ex (Ex.pickF rfl rfl) rfl rfl rfl ?_
            refine Ops.ex (Ex.move rfl) rfl rfl rfl ?_
            refine Ops.off rfl rfl ?_
            refine Ops.off rfl rfl ?_
            refine Ops.off rfl rfl ?_
            refine Ops.off rfl rfl ?_
            refine Ops.offU rfl rfl ?_
            refine Ops.offU rfl rfl ?_
            refine Ops.offU rfl rfl ?_
            refine Ops.offU rfl rfl ?_
            refine Ops.offU rfl rfl ?_
            refine Ops.off rfl rfl ?_
            refine Ops.ex (Ex.pickF rfl rfl) rfl rfl rfl ?_
            refine Ops.ex (Ex.assign rfl) rfl rfl rfl ?_
            refine Ops.nil ?_
            obtain rfl := Option.some.inj hf
            exact Run.retV [vb false] rfl ⟨rfl, trivial⟩ ⟨z0, rfl, hle0, (St.forget hst5 1)⟩
        · replace hf := ifF (dec_F hc) hf
          refine Ops.off rfl rfl ?_
          refine Ops.off rfl rfl ?_
          refine Ops.off rfl rfl ?_
          refine Ops.ex (Ex.pickF rfl rfl) rfl rfl rfl ?_
          refine Ops.ex (Ex.move rfl) rfl rfl rfl ?_
          refine Ops.off rfl rfl ?_
          refine Ops.off rfl rfl ?_
          refine Ops.off rfl rfl ?_
          refine Ops.off rfl rfl ?_
          refine Ops.off rfl rfl ?_
          refine Ops.ex (Ex.pickF rfl rfl) rfl rfl rfl ?_
          refine Ops.ex (Ex.move rfl) rfl rfl rfl ?_
          refine Ops.off rfl rfl ?_
          refine Ops.off rfl rfl ?_
          refine Ops.off rfl rfl ?_
          refine Ops.ex (Ex.pickF rfl rfl) rfl rfl rfl ?_
          refine Ops.ex (Ex.move rfl) rfl rfl rfl ?_
          refine Ops.off rfl rfl ?_
          refine Ops.off rfl rfl ?_
          refine Ops.off rfl rfl ?_
          refine Ops.off rfl rfl ?_
          refine Ops.offU rfl rfl ?_
          refine Ops.offU rfl rfl ?_
          refine Ops.offU rfl rfl ?_
          refine Ops.offU rfl rfl ?_
          refine Ops.offU rfl rfl ?_
          refine Ops.off rfl rfl ?_
          refine Ops.ex (Ex.pickF rfl rfl) rfl rfl rfl ?_
          refine Ops.ex (Ex.assign rfl) rfl rfl rfl ?_
          refine Ops.nil ?_
          obtain rfl := Option.some.inj hf
          exact Run.retV [vb false] rfl ⟨rfl, trivial⟩ ⟨z0, rfl, hle0, (St.forget hst5 1)⟩
      · replace hf := ifF (dec_F hc) hf
        refine Ops.off rfl rfl ?_
        refine Ops.off rfl rfl ?_
        refine Ops.off rfl rfl ?_
        refine Ops.ex (Ex.pickF rfl rfl) rfl rfl rfl ?_
        refine Ops.ex (Ex.move rfl) rfl rfl rfl ?_
        refine Ops.off rfl rfl ?_
        refine Ops.off rfl rfl ?_
        refine Ops.off rfl rfl ?_
        refine Ops.ex (Ex.pickF rfl rfl) rfl rfl rfl ?_
        refine Ops.ex (Ex.move rfl) rfl rfl rfl ?_
        refine Ops.off rfl rfl ?_
        refine Ops.off rfl rfl ?_
        refine Ops.off rfl rfl ?_
        refine Ops.off rfl rfl ?_
        refine Ops.off rfl rfl ?_
        refine Ops.ex (Ex.pickF rfl rfl) rfl rfl rfl ?_
        refine Ops.ex (Ex.move rfl) rfl rfl rfl ?_
        refine Ops.off rfl rfl ?_
        refine Ops.off rfl rfl ?_
        refine Ops.off rfl rfl ?_
        refine Ops.ex (Ex.pickF rfl rfl) rfl rfl rfl ?_
        refine Ops.ex (Ex.move rfl) rfl rfl rfl ?_
        refine Ops.off rfl rfl ?_
        refine Ops.off rfl rfl ?_
        refine Ops.off rfl rfl ?_
        refine Ops.off rfl rfl ?_
        refine Ops.offU rfl rfl ?_
        refine Ops.offU rfl rfl ?_
        refine Ops.offU rfl rfl ?_
        refine Ops.offU rfl rfl ?_
        refine Ops.offU rfl rfl ?_
        refine Ops.off rfl rfl ?_
        refine Ops.ex (Ex.pickF rfl rfl) rfl rfl rfl ?_
        refine Ops.ex (Ex.assign rfl) rfl rfl rfl ?_
        refine Ops.nil ?_
        obtain rfl := Option.some.inj hf
        exact Run.retV [vb false] rfl ⟨rfl, trivial⟩ ⟨z0, rfl, hle0, (St.forget hst5 1)⟩
    · replace hf := ifF (dec_F hc) hf
      refine Ops.off rfl rfl ?_
      refine Ops.off rfl rfl ?_
      refine Ops.off rfl rfl ?_
      refine Ops.ex (Ex.pickF rfl rfl) rfl rfl rfl ?_
      refine Ops.ex (Ex.move rfl) rfl rfl rfl ?_
      refine Ops.off rfl rfl ?_
      refine Ops.off rfl rfl ?_
      refine Ops.off rfl rfl ?_
      refine Ops.ex (Ex.pickF rfl rfl) rfl rfl rfl ?_
      refine Ops.ex (Ex.move rfl) rfl rfl rfl ?_
      refine Ops.off rfl rfl ?_
      refine Ops.off rfl rfl ?_
      refine Ops.off rfl rfl ?_
      refine Ops.ex (Ex.pickF rfl rfl) rfl rfl rfl ?_
      refine Ops.ex (Ex.move rfl) rfl rfl rfl ?_
      refine Ops.off rfl rfl ?_
      refine Ops.off rfl rfl ?_
      refine Ops.off rfl rfl ?_
      refine Ops.off rfl rfl ?_
      refine Ops.off rfl rfl ?_
      refine Ops.ex (Ex.pickF rfl rfl) rfl rfl rfl ?_
      refine Ops.ex (Ex.move rfl) rfl rfl rfl ?_
      refine Ops.off rfl rfl ?_
      refine Ops.off rfl rfl ?_
      refine Ops.off rfl rfl ?_
      refine Ops.ex (Ex.pickF rfl rfl) rfl rfl rfl ?_
      refine Ops.ex (Ex.move rfl) rfl rfl rfl ?_
      refine Ops.off rfl rfl ?_
      refine Ops.off rfl rfl ?_
      refine Ops.off rfl rfl ?_
      refine Ops.off rfl rfl ?_
      refine Ops.offU rfl rfl ?_
      refine Ops.offU rfl rfl ?_
      refine Ops.offU rfl rfl ?_
      refine Ops.offU rfl rfl ?_
      refine Ops.offU rfl rfl ?_
      refine Ops.off rfl rfl ?_
      refine Ops.ex (Ex.pickF rfl rfl) rfl rfl rfl ?_
      refine Ops.ex (Ex.assign rfl) rfl rfl rfl ?_
      refine Ops.nil ?_
      obtain rfl := Option.some.inj hf
      exact Run.retV [vb false] rfl ⟨rfl, trivial⟩ ⟨z0, rfl, hle0, (St.forget hst5 1)⟩
  · replace hf := ifF (dec_F hc) hf
    refine Ops.off rfl rfl ?_
    refine Ops.off rfl rfl ?_
    refine Ops.off rfl rfl ?_
    refine Ops.off rfl rfl ?_
    refine Ops.ex (Ex.pickF rfl rfl) rfl rfl rfl ?_
    refine Ops.ex (Ex.move rfl) rfl rfl rfl ?_
    refine Ops.off rfl rfl ?_
    refine Ops.off rfl rfl ?_
    refine Ops.off rfl rfl ?_
    refine Ops.ex (Ex.pickF rfl rfl) rfl rfl rfl ?_
    refine Ops.ex (Ex.move rfl) rfl rfl rfl ?_
    refine Ops.off rfl rfl ?_
    refine Ops.off rfl rfl ?_
    refine Ops.off rfl rfl ?_
    refine Ops.ex (Ex.pickF rfl rfl) rfl rfl rfl ?_
    refine Ops.ex (Ex.move rfl) rfl rfl rfl ?_
    refine Ops.off rfl rfl ?_
    refine Ops.off rfl rfl ?_
    refine Ops.off rfl rfl ?_
    refine Ops.ex (Ex.pickF rfl rfl) rfl rfl rfl ?_
    refine Ops.ex (Ex.move rfl) rfl rfl rfl ?_
    refine Ops.off rfl rfl ?_
    refine Ops.off rfl rfl ?_
    refine Ops.off rfl rfl ?_
    refine Ops.off rfl rfl ?_
    refine Ops.off rfl rfl ?_
    refine Ops.ex (Ex.pickF rfl rfl) rfl rfl rfl ?_
    refine Ops.ex (Ex.move rfl) rfl rfl rfl ?_
    refine Ops.off rfl rfl ?_
    refine Ops.off rfl rfl ?_
    refine Ops.off rfl rfl ?_
    refine Ops.ex (Ex.pickF rfl rfl) rfl rfl rfl ?_
    refine Ops.ex (Ex.move rfl) rfl rfl rfl ?_
    refine Ops.off rfl rfl ?_
    refine Ops.off rfl rfl ?_
    refine Ops.off rfl rfl ?_
    refine Ops.off rfl rfl ?_
    refine Ops.offU rfl rfl ?_
    refine Ops.offU rfl rfl ?_
    refine Ops.offU rfl rfl ?_
    refine Ops.offU rfl rfl ?_
    refine Ops.offU rfl rfl ?_
    refine Ops.off rfl rfl ?_
    refine Ops.ex (Ex.pickF rfl rfl) rfl rfl rfl ?_
    refine Ops.ex (Ex.assign rfl) rfl rfl rfl ?_
    refine Ops.nil ?_
    obtain rfl := Option.some.inj hf
    exact Run.retV [vb false] rfl ⟨rfl, trivial⟩ ⟨z0, rfl, hle0, (St.forget hst5 1)⟩
def go_law10_EditsMay (p0 : apiRef) (p1 : UInt8) : Option Bool :=
  (go_law10_awake).bind fun y7 => if y7 then ((go_law10_Step_Edit (⟨[p1], [], 0, false, ⟨[], 0, 0, 0⟩⟩ : law10Step)).bind fun y10 => (atI y10.Add 0).bind fun y15 => (go_edits_May p0).bind fun y25 => (go_law10_may p0).bind fun y27 => if y25 = y27 then ((go_edits_May y15).bind fun y29 => if y29 then ((go_law10_may y15).bind fun y31 => some y31) else (some false)) else (some false)) else (some false)
set_option maxRecDepth 100000 in
set_option maxHeartbeats 4000000 in
theorem go_law10_EditsMay.walk {w0 w : World} {X : List Res} {z0 : Zp} {p0 : apiRef} {p1 : UInt8} {r : Bool} (hst : Ht w0 (frz z0 :: X) w) (hf : go_law10_EditsMay p0 p1 = some r) :
    Calls Try.prog 3 #[.agg #[vs p0.Name, vi p0.Kind, vi p0.From, vi p0.To], vu8 p1] w fun e w' => ∃ (z' : Zp), e = .returned (vb r) ∧ Le z0 z' ∧ Ht w0 (frz z' :: X) w' := by
  refine calls_np Try.func3 rfl rfl ?_
  have hle0 := Le.refl z0
  unfold go_law10_EditsMay at hf
  refine Run.seq ?_
  refine Run.region ?_
  refine Ops.boxF [vs p0.Name, vi p0.Kind, vi p0.From, vi p0.To] hst rfl rfl rfl (fun g6 w6 hst6 => ?_)
  refine Ops.ex (Ex.assign rfl) rfl rfl rfl ?_
  refine Ops.nil ?_
  refine Run.seq ?_
  refine Run.seq ?_
  refine Run.region ?_
  obtain ⟨y7, hy7, hf⟩ := bnd hf
  refine Ops.call rfl rfl Try.func11 (by kernel_rfl) (by kernel_rfl) rfl (go_law10_awake.walk (hst := hst6) (hf := hy7)) ?_
  rintro _ w7 ⟨z7, rfl, hz7, hst7⟩
  refine ⟨_, rfl, ?_⟩
  replace hle0 := hle0.trans hz7
  refine Ops.ex (Ex.not rfl) rfl rfl rfl ?_
  refine Ops.nil ?_
  refine Run.cond rfl (fun hc => ?_) (fun hc => ?_)
  · replace hf := ifFb (bn_T hc) hf
    refine Run.seq ?_
    refine Run.region ?_
    refine Ops.ex (Ex.assign rfl) rfl rfl rfl ?_
    refine Ops.nil ?_
    obtain rfl := Option.some.inj hf
    exact Run.retV [vb false] rfl ⟨rfl, trivial⟩ ⟨z7, rfl, hle0, (St.forget hst7 1)⟩
  · replace hf := ifTb (bn_F hc) hf
    refine Run.skip ?_
    refine Run.seq ?_
    refine Run.region ?_
    refine Ops.ex (Ex.move rfl) rfl rfl rfl ?_
    refine Ops.sliceF [vu8 p1] hst7 rfl Try.underlying30 sz5 zr5 rfl rfl (by kernel_rfl) rfl (by simp [Value.oneCell']) rfl (fun A9 w9 hst9 => ?_)
    have f9 : Cs tU8 z7 [vu8 p1] [p1] := (Cs.cons (c := [vu8 p1]) rfl (Cs.nil _ _))
    refine Ops.ex (Ex.build [.slice A9 [p1].length 1, .slice none 0 0, vu8 0, vb false, vs [], vi 0, vi 0, vi 0] rfl Try.underlying32 zr32 (pl32 Try.underlying32) (by kernel_rfl)) rfl rfl rfl ?_
    obtain ⟨z11, hz11, f11, hst11⟩ := St.freeze (τ := tU8) (xs := [p1]) hst9 f9 rfl
    replace hle0 := hle0.trans hz11
    obtain ⟨y10, hy10, hf⟩ := bnd hf
    refine Ops.call rfl rfl Try.func12 (by kernel_rfl) (by kernel_rfl) rfl (go_law10_Step_Edit.walk (p0 := (⟨[p1], [], 0, false, ⟨[], 0, 0, 0⟩⟩ : law10Step)) (hst := hst11) (f1 := f11) (f2 := Sl.nil _ _) (hf := hy10)) ?_
    rintro _ w10 ⟨z10, A12, c12, A13, c13, rfl, hz10, f12, f13, hst10⟩
    refine ⟨_, rfl, ?_⟩
    replace f11 := f11.mono hz10
    replace hle0 := hle0.trans hz10
    refine Ops.ex (Ex.field rfl Try.underlying29 rfl (fun w => rfl)) rfl rfl rfl ?_
    obtain ⟨y15, hy15, hf⟩ := bnd hf
    obtain ⟨g20, p20, o20, cs20, hA20, ho20, hr20, f20⟩ := SlH.elem f12.toH hy15
    obtain rfl := hr20
    refine Ops.ex (Ex.ixA hA20 ho20 hy15 rfl rfl rfl Try.underlying26 sz24) rfl rfl rfl ?_
    refine Ops.loadAgg [vs y15.Name, vi y15.Kind, vi y15.From, vi y15.To] rfl Try.underlying24 rfl sz24 rfl (cells_of_zc rfl (f20.mono hst10.le)) rfl ?_
    refine Ops.allocF [vs [], vi 0, vi 0, vi 0] hst10 zr24 rfl rfl (fun g21 w21 hst21 => ?_)
    refine Ops.store 1 [vs y15.Name, vi y15.Kind, vi y15.From, vi y15.To] hst21 rfl rfl rfl rfl sz24 rfl (by simp [Value.oneCell']) (by simp) (fun w22 hst22 => ?_)
    refine Ops.nil ?_
    refine Run.seq ?_
    have hm24 := Le.refl z10
    refine Run.drawH [([], fun w => ∃ ζ Y, Le z10 ζ ∧ Ht w0 (frz ζ :: (blk g21 [vs y15.Name, vi y15.Kind, vi y15.From, vi y15.To] 24) :: (blk g6 [vs p0.Name, vi p0.Kind, vi p0.From, vi p0.To] 24) :: Y) w)] (by kernel_rfl) hst22 (fun w23 hst23 => ?_)
    have hS0 := (⟨_, _, (Le.refl _), (St.up (St.up (St.up hst23 2 rfl) 2 rfl) 2 rfl)⟩ : (fun w => ∃ ζ Y, Le z10 ζ ∧ Ht w0 (frz ζ :: (blk g21 [vs y15.Name, vi y15.Kind, vi y15.From, vi y15.To] 24) :: (blk g6 [vs p0.Name, vi p0.Kind, vi p0.From, vi p0.To] 24) :: Y) w) _)
    refine Any.take 0 0 rfl rfl rfl rfl rfl (by kernel_rfl) (fun _ _ _ _ _ h => h) (ExS.loadAgg [vs p0.Name, vi p0.Kind, vi p0.From, vi p0.To] rfl Try.underlying24 rfl sz24 rfl (fun w hS => by obtain ⟨_, _, _, hs⟩ := hS; exact hs.cells (i := 2) rfl 0 4)) hS0 ?_
    refine Any.take 0 2 rfl rfl rfl rfl rfl (by kernel_rfl) (fun _ _ _ _ _ h => h) (ExS.loadAgg [vs p0.Name, vi p0.Kind, vi p0.From, vi p0.To] rfl Try.underlying24 rfl sz24 rfl (fun w hS => by obtain ⟨_, _, _, hs⟩ := hS; exact hs.cells (i := 2) rfl 0 4)) hS0 ?_
    obtain ⟨y25, hy25, hf⟩ := bnd hf
    refine Any.one 1 (by kernel_rfl) rfl rfl (One.of_ops rfl ?_)
    refine Ops.call rfl rfl Try.func13 (by kernel_rfl) (by kernel_rfl) rfl (go_edits_May.walk (p0 := p0) (hst := hst23) (hf := hy25)) ?_
    rintro _ w25 ⟨z25, rfl, hz25, hst25⟩
    refine ⟨_, rfl, Ops.stop ?_⟩
    replace f11 := f11.mono hz25; replace f12 := f12.mono hz25; replace f13 := f13.mono hz25; replace f20 := f20.mono hz25
    replace hle0 := hle0.trans hz25
    replace hm24 := hm24.trans hz25
    have hS0 := (⟨_, _, hm24, (St.up (St.up (St.up hst25 2 rfl) 2 rfl) 2 rfl)⟩ : (fun w => ∃ ζ Y, Le z10 ζ ∧ Ht w0 (frz ζ :: (blk g21 [vs y15.Name, vi y15.Kind, vi y15.From, vi y15.To] 24) :: (blk g6 [vs p0.Name, vi p0.Kind, vi p0.From, vi p0.To] 24) :: Y) w) _)
    refine ⟨⟨.inr (fun _ => hS0), trivial⟩, ?_⟩
    obtain ⟨y27, hy27, hf⟩ := bnd hf
    refine Any.one 3 (by kernel_rfl) rfl rfl (One.of_ops rfl ?_)
    refine Ops.call rfl rfl Try.func14 (by kernel_rfl) (by kernel_rfl) rfl (go_law10_may.walk (p0 := p0) (hst := hst25) (hf := hy27)) ?_
    rintro _ w27 ⟨z27, rfl, hz27, hst27⟩
    refine ⟨_, rfl, Ops.stop ?_⟩
    replace f11 := f11.mono hz27; replace f12 := f12.mono hz27; replace f13 := f13.mono hz27; replace f20 := f20.mono hz27
    replace hle0 := hle0.trans hz27
    replace hm24 := hm24.trans hz27
    have hS0 := (⟨_, _, hm24, (St.up (St.up (St.up hst27 2 rfl) 2 rfl) 2 rfl)⟩ : (fun w => ∃ ζ Y, Le z10 ζ ∧ Ht w0 (frz ζ :: (blk g21 [vs y15.Name, vi y15.Kind, vi y15.From, vi y15.To] 24) :: (blk g6 [vs p0.Name, vi p0.Kind, vi p0.From, vi p0.To] 24) :: Y) w) _)
    refine ⟨⟨.inr (fun _ => hS0), trivial⟩, ?_⟩
    refine Any.takeE 4 rfl rfl rfl rfl (by kernel_rfl) (fun _ _ _ _ _ h => h) ((Ex.eqlBo rfl rfl Try.underlying4).s) ?_
    refine Any.takeE 5 rfl rfl rfl rfl (by kernel_rfl) (fun _ _ _ _ _ h => h) ((Ex.move rfl).s) ?_
    refine Any.case 20 rfl (fun hc => ?_) (fun hc => ?_)
    · replace hf := ifT (dec_T hc) hf
      refine Any.take 0 6 rfl rfl rfl rfl rfl (by kernel_rfl) (fun _ _ _ _ _ h => h) (ExS.g (ExS.loadAgg [vs y15.Name, vi y15.Kind, vi y15.From, vi y15.To] rfl Try.underlying24 rfl sz24 rfl (fun w hS => by obtain ⟨_, _, _, hs⟩ := hS; exact hs.cells (i := 1) rfl 0 4))) hS0 ?_
      obtain ⟨y29, hy29, hf⟩ := bnd hf
      refine Any.one 7 (by kernel_rfl) rfl rfl (One.g <| One.of_ops rfl ?_)
      refine Ops.call rfl rfl Try.func13 (by kernel_rfl) (by kernel_rfl) rfl (go_edits_May.walk (p0 := y15) (hst := hst27) (hf := hy29)) ?_
      rintro _ w29 ⟨z29, rfl, hz29, hst29⟩
      refine ⟨_, rfl, Ops.stop ?_⟩
      replace f11 := f11.mono hz29; replace f12 := f12.mono hz29; replace f13 := f13.mono hz29; replace f20 := f20.mono hz29
      replace hle0 := hle0.trans hz29
      replace hm24 := hm24.trans hz29
      have hS0 := (⟨_, _, hm24, (St.up (St.up (St.up hst29 2 rfl) 2 rfl) 2 rfl)⟩ : (fun w => ∃ ζ Y, Le z10 ζ ∧ Ht w0 (frz ζ :: (blk g21 [vs y15.Name, vi y15.Kind, vi y15.From, vi y15.To] 24) :: (blk g6 [vs p0.Name, vi p0.Kind, vi p0.From, vi p0.To] 24) :: Y) w) _)
      refine ⟨⟨.inr (fun _ => hS0), trivial⟩, ?_⟩
      refine Any.takeE 8 rfl rfl rfl rfl (by kernel_rfl) (fun _ _ _ _ _ h => h) ((Ex.pickT rfl rfl).s) ?_
      refine Any.takeE 9 rfl rfl rfl rfl (by kernel_rfl) (fun _ _ _ _ _ h => h) ((Ex.move rfl).s) ?_
      refine Any.case 24 rfl (fun hc => ?_) (fun hc => ?_)
      · replace hf := ifTb hc hf
        refine Any.take 0 10 rfl rfl rfl rfl rfl (by kernel_rfl) (fun _ _ _ _ _ h => h) (ExS.g (ExS.loadAgg [vs y15.Name, vi y15.Kind, vi y15.From, vi y15.To] rfl Try.underlying24 rfl sz24 rfl (fun w hS => by obtain ⟨_, _, _, hs⟩ := hS; exact hs.cells (i := 1) rfl 0 4))) hS0 ?_
        obtain ⟨y31, hy31, hf⟩ := bnd hf
        refine Any.one 11 (by kernel_rfl) rfl rfl (One.g <| One.of_ops rfl ?_)
        refine Ops.call rfl rfl Try.func14 (by kernel_rfl) (by kernel_rfl) rfl (go_law10_may.walk (p0 := y15) (hst := hst29) (hf := hy31)) ?_
        rintro _ w31 ⟨z31, rfl, hz31, hst31⟩
        refine ⟨_, rfl, Ops.stop ?_⟩
        replace f11 := f11.mono hz31; replace f12 := f12.mono hz31; replace f13 := f13.mono hz31; replace f20 := f20.mono hz31
        replace hle0 := hle0.trans hz31
        replace hm24 := hm24.trans hz31
        have hS0 := (⟨_, _, hm24, (St.up (St.up (St.up hst31 2 rfl) 2 rfl) 2 rfl)⟩ : (fun w => ∃ ζ Y, Le z10 ζ ∧ Ht w0 (frz ζ :: (blk g21 [vs y15.Name, vi y15.Kind, vi y15.From, vi y15.To] 24) :: (blk g6 [vs p0.Name, vi p0.Kind, vi p0.From, vi p0.To] 24) :: Y) w) _)
        refine ⟨⟨.inr (fun _ => hS0), trivial⟩, ?_⟩
        refine Any.takeE 12 rfl rfl rfl rfl (by kernel_rfl) (fun _ _ _ _ _ h => h) ((Ex.pickT rfl rfl).s) ?_
        refine Any.takeE 13 rfl rfl rfl rfl (by kernel_rfl) (fun _ _ _ _ _ h => h) ((Ex.assign rfl).s) ?_
        refine Any.done (by kernel_rfl) ?_
        obtain rfl := Option.some.inj hf
        exact Run.retV [vb y31] rfl ⟨rfl, trivial⟩ ⟨z31, rfl, hle0, (St.forget (St.forget hst31 2) 1)⟩
      · replace hf := ifFb hc hf
        refine Any.pass 10 rfl rfl rfl rfl (by kernel_rfl) (fun _ _ _ _ _ h => h) ?_
        refine Any.pass 11 rfl rfl rfl rfl (by kernel_rfl) (fun _ _ _ _ _ h => h) ?_
        refine Any.takeE 12 rfl rfl rfl rfl (by kernel_rfl) (fun _ _ _ _ _ h => h) ((Ex.pickF rfl rfl).s) ?_
        refine Any.takeE 13 rfl rfl rfl rfl (by kernel_rfl) (fun _ _ _ _ _ h => h) ((Ex.assign rfl).s) ?_
        refine Any.done (by kernel_rfl) ?_
        obtain rfl := Option.some.inj hf
        exact Run.retV [vb false] rfl ⟨rfl, trivial⟩ ⟨z29, rfl, hle0, (St.forget (St.forget hst29 2) 1)⟩
    · replace hf := ifF (dec_F hc) hf
      refine Any.pass 6 rfl rfl rfl rfl (by kernel_rfl) (fun _ _ _ _ _ h => h) ?_
      refine Any.pass 7 rfl rfl rfl rfl (by kernel_rfl) (fun _ _ _ _ _ h => h) ?_
      refine Any.takeE 8 rfl rfl rfl rfl (by kernel_rfl) (fun _ _ _ _ _ h => h) ((Ex.pickF rfl rfl).s) ?_
      refine Any.takeE 9 rfl rfl rfl rfl (by kernel_rfl) (fun _ _ _ _ _ h => h) ((Ex.move rfl).s) ?_
      refine Any.pass 10 rfl rfl rfl rfl (by kernel_rfl) (fun _ _ _ _ _ h => h) ?_
      refine Any.pass 11 rfl rfl rfl rfl (by kernel_rfl) (fun _ _ _ _ _ h => h) ?_
      refine Any.takeE 12 rfl rfl rfl rfl (by kernel_rfl) (fun _ _ _ _ _ h => h) ((Ex.pickF rfl rfl).s) ?_
      refine Any.takeE 13 rfl rfl rfl rfl (by kernel_rfl) (fun _ _ _ _ _ h => h) ((Ex.assign rfl).s) ?_
      refine Any.done (by kernel_rfl) ?_
      obtain rfl := Option.some.inj hf
      exact Run.retV [vb false] rfl ⟨rfl, trivial⟩ ⟨z27, rfl, hle0, (St.forget (St.forget hst27 2) 1)⟩
def go_law10_EditsFloor.j2 (l188 : List apiRef) (x189 : Int) (nxb7 : (List apiRef × Int) → Option Bool) (x234 : Int) (l235 : List apiRef) (x236 : Int) (b268 : Bool) : Option Bool :=
  if b268 then (some false) else (if x234 = 0 then (nxb7 (l235, x236)) else (nxb7 (l188, x189)))
def go_law10_EditsFloor.j1 (l188 : List apiRef) (x189 : Int) (nxb7 : (List apiRef × Int) → Option Bool) (x234 : Int) (l235 : List apiRef) (x236 : Int) : Option Bool :=
  if x234 = 0 then (go_law10_EditsFloor.j2 l188 x189 nxb7 x234 l235 x236 (decide (x236 < x189))) else (go_law10_EditsFloor.j2 l188 x189 nxb7 x234 l235 x236 false)
def go_law10_EditsFloor.b1 (i7 : Nat) (a7 : law10Step) : (List apiRef × Int) → (List apiRef × Int → Option Bool) → Option Bool :=
  fun (l188, x189) nxb7 => (go_law10_Step_Edit a7).bind fun y238 => (go_edits_Do (⟨l188, x189⟩ : editsSet) y238).bind fun y242 => go_law10_EditsFloor.j1 l188 x189 nxb7 y242.2 y242.1.Refs y242.1.Floor
def go_law10_EditsFloor (p0 : List law10Step) (p1 : UInt8) : Option Bool :=
  (go_law10_awake).bind fun y3 => if y3 then ((cutI p0 0 (min (p0.length : Int) 40)).bind fun l6 => forL (go_law10_EditsFloor.b1) (fun (l188, x189) => (go_edits_Do (⟨l188, x189⟩ : editsSet) (⟨[], [], (p1.toNat : Int)⟩ : editsEdit)).bind fun y271 => if (decide (y271.2 = 0)) = (decide (x189 ≤ (p1.toNat : Int))) then (if y271.2 = 0 then (if y271.1.Floor = (p1.toNat : Int) then (some (decide ((y271.1.Refs.length : Int) = (l188.length : Int)))) else (some false)) else (some true)) else (some false)) 0 l6 ([], 0)) else (some false)
set_option maxRecDepth 100000 in
set_option maxHeartbeats 4000000 in
theorem go_law10_EditsFloor.walk {w0 w : World} {X : List Res} {z0 : Zp} {p0 : List law10Step} {A1 : Option Addr} {c1 : Nat} {p1 : UInt8} {r : Bool} (hst : Ht w0 (frz z0 :: X) w) (f1 : Sl tlaw10Step z0 A1 c1 p0) (hf : go_law10_EditsFloor p0 p1 = some r) :
    Calls Try.prog 4 #[.slice A1 p0.length c1, vu8 p1] w fun e w' => ∃ (z' : Zp), e = .returned (vb r) ∧ Le z0 z' ∧ Ht w0 (frz z' :: X) w' := by
  refine calls_np Try.func4 rfl rfl ?_
  have hle0 := Le.refl z0
  unfold go_law10_EditsFloor at hf
  refine Run.seq ?_
  refine Run.region ?_
  refine Ops.ex (Ex.assign rfl) rfl rfl rfl ?_
  refine Ops.nil ?_
  refine Run.seq ?_
  refine Run.seq ?_
  refine Run.region ?_
  obtain ⟨y3, hy3, hf⟩ := bnd hf
  refine Ops.call rfl rfl Try.func11 (by kernel_rfl) (by kernel_rfl) rfl (go_law10_awake.walk (hst := hst) (hf := hy3)) ?_
  rintro _ w3 ⟨z3, rfl, hz3, hst3⟩
  refine ⟨_, rfl, ?_⟩
  replace f1 := f1.mono hz3
  replace hle0 := hle0.trans hz3
  refine Ops.ex (Ex.not rfl) rfl rfl rfl ?_
  refine Ops.nil ?_
  refine Run.cond rfl (fun hc => ?_) (fun hc => ?_)
  · replace hf := ifFb (bn_T hc) hf
    refine Run.seq ?_
    refine Run.region ?_
    refine Ops.ex (Ex.assign rfl) rfl rfl rfl ?_
    refine Ops.nil ?_
    obtain rfl := Option.some.inj hf
    exact Run.retV [vb false] rfl ⟨rfl, trivial⟩ ⟨z3, rfl, hle0, hst3⟩
  · replace hf := ifTb (bn_F hc) hf
    refine Run.skip ?_
    refine Run.seq ?_
    refine Run.region ?_
    refine Ops.allocF [.slice none 0 0, vi 0] hst3 zr38 rfl rfl (fun g5 w5 hst5 => ?_)
    refine Ops.nil ?_
    refine Run.seq ?_
    refine Run.seq ?_
    refine Run.region ?_
    refine Ops.ex (Ex.move rfl) rfl rfl rfl ?_
    refine Ops.ex (Ex.move rfl) rfl rfl rfl ?_
    refine Ops.ex (Ex.len' rfl rfl rfl Try.underlying36) rfl rfl rfl ?_
    refine Ops.ex (Ex.min2 rfl rfl rfl) rfl rfl rfl ?_
    obtain ⟨l6, hy6, hf⟩ := bnd hf
    obtain ⟨A6, c6, hA6, hB6, f6⟩ := SlH.sub f1.toH hy6
    replace f6 := f6.toS
    refine Ops.ex (Ex.subA hA6 hB6 hy6 rfl rfl Try.underlying36 sz32 rfl rfl) rfl rfl rfl ?_
    refine Ops.ex (Ex.len' rfl rfl rfl Try.underlying36) rfl rfl rfl ?_
    refine Ops.ex (Ex.move rfl) rfl rfl rfl ?_
    refine Ops.nil ?_
    refine Run.block ?_
    have hc7 := f6.cap
    have hm8 := Le.refl z3
    refine Run.sub (e' := [(1, vu8 p1), (5, .pointer (some ⟨g5, 0, none⟩)), (18, .slice A6 l6.length c6), (19, vi (l6.length : Int)), (20, vi ((0 : Nat) : Int))]) (subB_spec ⟨rfl, rfl, rfl, rfl, rfl, trivial⟩) ?_
    refine Run.loop (fun mb7 => (fun e' w' => ∃ (i7 : Nat) (l188 : List apiRef) (x189 : Int) (A188 : Option Addr) (c188 : Nat) (z187 : Zp), mb7 = l6.length - i7 ∧ i7 ≤ l6.length ∧ forL (go_law10_EditsFloor.b1) (fun (l188, x189) => (go_edits_Do (⟨l188, x189⟩ : editsSet) (⟨[], [], (p1.toNat : Int)⟩ : editsEdit)).bind fun y271 => if (decide (y271.2 = 0)) = (decide (x189 ≤ (p1.toNat : Int))) then (if y271.2 = 0 then (if y271.1.Floor = (p1.toNat : Int) then (some (decide ((y271.1.Refs.length : Int) = (l188.length : Int)))) else (some false)) else (some true)) else (some false)) i7 (l6.drop i7) (l188, x189) = some r ∧ e' = [(1, vu8 p1), (5, .pointer (some ⟨g5, 0, none⟩)), (18, .slice A6 l6.length c6), (19, vi (l6.length : Int)), (20, vi (i7 : Int))] ∧ Le z3 z187 ∧ Le z0 z187 ∧ Sl tapiRef z187 A188 c188 l188 ∧ Ht w0 (frz z187 :: (blk g5 [.slice A188 l188.length c188, vi x189] 38) :: X) w')) l6.length ⟨0, [], 0, none, 0, z3, rfl, Nat.zero_le _, hf, rfl, hm8, hle0, (Sl.nil _ _), hst5⟩ ?_
    rintro _ e' w190 ⟨i7, l188, x189, A188, c188, z187, rfl, hi7, hf, rfl, hz190, hy190_0, f188, hst190⟩
    replace f6 := f6.mono hz190
    refine Run.seq ?_
    refine Run.region ?_
    refine Ops.ex (Ex.lss rfl rfl) rfl rfl rfl ?_
    refine Ops.nil ?_
    refine Run.seq ?_
    refine Run.cond rfl (fun hc => ?_) (fun hc => ?_)
    · have hl7 := lt_of_dec hc
      obtain ⟨a7, nxb7, ha7, hnxb7, hf⟩ := forL_in hf hl7
      unfold go_law10_EditsFloor.b1 at hf
      try dsimp only at hf
      refine Run.skip ?_
      refine Run.seq ?_
      refine Run.block ?_
      refine Run.seq ?_
      refine Run.region ?_
      obtain ⟨g199, p199, o199, cs199, hA199, ho199, hr199, f199⟩ := SlH.elem f6.toH (atI_nat ha7)
      obtain ⟨A191, c191, A192, c192, rfl, f191, f192⟩ := hr199
      refine Ops.ex (Ex.ixA hA199 ho199 (atI_nat ha7) rfl rfl rfl Try.underlying36 sz32) rfl rfl rfl ?_
      refine Ops.loadAgg [.slice A191 a7.Add.length c191, .slice A192 a7.Drop.length c192, vu8 a7.Floor, vb a7.Odd, vs a7.Any.Name, vi a7.Any.Kind, vi a7.Any.From, vi a7.Any.To] rfl Try.underlying32 rfl sz32 rfl (cells_of_zc rfl (f199.mono hst190.le)) rfl ?_
      refine Ops.allocF [.slice none 0 0, .slice none 0 0, vu8 0, vb false, vs [], vi 0, vi 0, vi 0] hst190 zr32 rfl rfl (fun g200 w200 hst200 => ?_)
      refine Ops.store 1 [.slice A191 a7.Add.length c191, .slice A192 a7.Drop.length c192, vu8 a7.Floor, vb a7.Odd, vs a7.Any.Name, vi a7.Any.Kind, vi a7.Any.From, vi a7.Any.To] hst200 rfl rfl rfl rfl sz32 rfl (by simp [Value.oneCell']) (by simp) (fun w201 hst201 => ?_)
      refine Ops.nil ?_
      refine Run.seq ?_
      have hm231 := Le.refl z187
      apply Run.jn (fun e' w' => ∃ (x234 : Int) (l235 : List apiRef) (x236 : Int) (g233 : Nat) (A235 : Option Addr) (c235 : Nat) (z232 : Zp), go_law10_EditsFloor.j1 l188 x189 nxb7 x234 l235 x236 = some r ∧ e' = [(1, vu8 p1), (5, .pointer (some ⟨g5, 0, none⟩)), (8, .pointer (some ⟨g233, 0, none⟩)), (9, vi x234), (18, .slice A6 l6.length c6), (19, vi (l6.length : Int)), (20, vi (i7 : Int))] ∧ Le z187 z232 ∧ Le z0 z232 ∧ Le z3 z232 ∧ Sl tapiRef z232 A235 c235 l235 ∧ Ht w0 (frz z232 :: (blk g5 [.slice A188 l188.length c188, vi x189] 38) :: (blk g233 [.slice A235 l235.length c235, vi x236] 38) :: X) w')
      · intro hj202
        refine Run.drawH [([], fun w => ∃ ζ Y, Le z187 ζ ∧ Ht w0 (frz ζ :: (blk g200 [.slice A191 a7.Add.length c191, .slice A192 a7.Drop.length c192, vu8 a7.Floor, vb a7.Odd, vs a7.Any.Name, vi a7.Any.Kind, vi a7.Any.From, vi a7.Any.To] 32) :: (blk g5 [.slice A188 l188.length c188, vi x189] 38) :: Y) w)] (by kernel_rfl) hst201 (fun w237 hst237 => ?_)
        have hS0 := (⟨_, _, (Le.refl _), (St.up (St.up (St.up hst237 2 rfl) 2 rfl) 2 rfl)⟩ : (fun w => ∃ ζ Y, Le z187 ζ ∧ Ht w0 (frz ζ :: (blk g200 [.slice A191 a7.Add.length c191, .slice A192 a7.Drop.length c192, vu8 a7.Floor, vb a7.Odd, vs a7.Any.Name, vi a7.Any.Kind, vi a7.Any.From, vi a7.Any.To] 32) :: (blk g5 [.slice A188 l188.length c188, vi x189] 38) :: Y) w) _)
        refine Any.take 0 0 rfl rfl rfl rfl rfl (by kernel_rfl) (fun _ _ _ _ _ h => h) (ExS.loadAgg [.slice A188 l188.length c188, vi x189] rfl Try.underlying38 rfl sz38 rfl (fun w hS => by obtain ⟨_, _, _, hs⟩ := hS; exact hs.cells (i := 2) rfl 0 2)) hS0 ?_
        refine Any.take 0 1 rfl rfl rfl rfl rfl (by kernel_rfl) (fun _ _ _ _ _ h => h) (ExS.loadAgg [.slice A191 a7.Add.length c191, .slice A192 a7.Drop.length c192, vu8 a7.Floor, vb a7.Odd, vs a7.Any.Name, vi a7.Any.Kind, vi a7.Any.From, vi a7.Any.To] rfl Try.underlying32 rfl sz32 rfl (fun w hS => by obtain ⟨_, _, _, hs⟩ := hS; exact hs.cells (i := 1) rfl 0 8)) hS0 ?_
        refine Any.all [2, 7] (by kernel_rfl) rfl (fun i hi => ?_)
        simp only [List.mem_cons, List.not_mem_nil, or_false] at hi
        rcases hi with rfl | rfl
        · skip
          obtain ⟨y238, hy238, hf⟩ := bnd hf
          refine ⟨_, rfl, rfl, One.of_ops rfl ?_⟩
          refine Ops.call rfl rfl Try.func12 (by kernel_rfl) (by kernel_rfl) rfl (go_law10_Step_Edit.walk (p0 := a7) (hst := hst237) (f1 := f191) (f2 := f192) (hf := hy238)) ?_
          rintro _ w238 ⟨z238, A239, c239, A240, c240, rfl, hz238, f239, f240, hst238⟩
          refine ⟨_, rfl, Ops.stop ?_⟩
          replace f6 := f6.mono hz238; replace f199 := f199.mono hz238; replace f191 := f191.mono hz238; replace f192 := f192.mono hz238; replace f188 := f188.mono hz238
          replace hy190_0 := hy190_0.trans hz238
          replace hz190 := hz190.trans hz238
          replace hm231 := hm231.trans hz238
          have hS0 := (⟨_, _, hm231, (St.up (St.up (St.up hst238 2 rfl) 2 rfl) 2 rfl)⟩ : (fun w => ∃ ζ Y, Le z187 ζ ∧ Ht w0 (frz ζ :: (blk g200 [.slice A191 a7.Add.length c191, .slice A192 a7.Drop.length c192, vu8 a7.Floor, vb a7.Odd, vs a7.Any.Name, vi a7.Any.Kind, vi a7.Any.From, vi a7.Any.To] 32) :: (blk g5 [.slice A188 l188.length c188, vi x189] 38) :: Y) w) _)
          refine ⟨⟨.inr (fun _ => hS0), trivial⟩, ?_⟩
          refine Any.all [3, 7] (by kernel_rfl) rfl (fun i hi => ?_)
          simp only [List.mem_cons, List.not_mem_nil, or_false] at hi
          rcases hi with rfl | rfl
          · skip
            obtain ⟨y242, hy242, hf⟩ := bnd hf
            refine ⟨_, rfl, rfl, One.of_ops rfl ?_⟩
            refine Ops.call rfl rfl Try.func15 (by kernel_rfl) (by kernel_rfl) rfl (go_edits_Do.walk (p0 := (⟨l188, x189⟩ : editsSet)) (p1 := y238) (hst := hst238) (f1 := f188) (f3 := f239) (f4 := f240) (hf := hy242)) ?_
            rintro _ w242 ⟨z242, A243, c243, rfl, hz242, f243, hst242⟩
            refine ⟨_, rfl, Ops.stop ?_⟩
            replace f6 := f6.mono hz242; replace f199 := f199.mono hz242; replace f191 := f191.mono hz242; replace f192 := f192.mono hz242; replace f188 := f188.mono hz242; replace f239 := f239.mono hz242; replace f240 := f240.mono hz242
            replace hy190_0 := hy190_0.trans hz242
            replace hz190 := hz190.trans hz242
            replace hm231 := hm231.trans hz242
            have hS0 := (⟨_, _, hm231, (St.up (St.up (St.up hst242 2 rfl) 2 rfl) 2 rfl)⟩ : (fun w => ∃ ζ Y, Le z187 ζ ∧ Ht w0 (frz ζ :: (blk g200 [.slice A191 a7.Add.length c191, .slice A192 a7.Drop.length c192, vu8 a7.Floor, vb a7.Odd, vs a7.Any.Name, vi a7.Any.Kind, vi a7.Any.From, vi a7.Any.To] 32) :: (blk g5 [.slice A188 l188.length c188, vi x189] 38) :: Y) w) _)
            refine ⟨⟨.inr (fun _ => hS0), trivial⟩, ?_⟩
            refine Any.takeE 4 rfl rfl rfl rfl (by kernel_rfl) (fun _ _ _ _ _ h => h) ((Ex.move rfl).s) ?_
            refine Any.takeE 5 rfl rfl rfl rfl (by kernel_rfl) (fun _ _ _ _ _ h => h) ((Ex.extract rfl rfl).s) ?_
            refine Any.takeE 6 rfl rfl rfl rfl (by kernel_rfl) (fun _ _ _ _ _ h => h) ((Ex.extract rfl rfl).s) ?_
            refine Any.one 7 (by kernel_rfl) rfl rfl (One.of_ops rfl ?_)
            refine Ops.allocF [.slice none 0 0, vi 0] hst242 zr38 rfl rfl (fun g246 w246 hst246 => Ops.stop ?_)
            have hS0 := (⟨_, _, hm231, (St.up (St.up (St.up hst246 3 rfl) 3 rfl) 2 rfl)⟩ : (fun w => ∃ ζ Y, Le z187 ζ ∧ Ht w0 (frz ζ :: (blk g200 [.slice A191 a7.Add.length c191, .slice A192 a7.Drop.length c192, vu8 a7.Floor, vb a7.Odd, vs a7.Any.Name, vi a7.Any.Kind, vi a7.Any.From, vi a7.Any.To] 32) :: (blk g5 [.slice A188 l188.length c188, vi x189] 38) :: Y) w) _)
            refine ⟨⟨.inr (fun _ => hS0), trivial⟩, ?_⟩
            refine Any.one 8 (by kernel_rfl) rfl rfl (One.of_ops rfl ?_)
            refine Ops.store 1 [.slice A243 y242.1.Refs.length c243, vi y242.1.Floor] hst246 rfl rfl rfl rfl sz38 rfl (by simp [Value.oneCell']) (by simp) (fun w247 hst247 => Ops.stop ?_)
            have hS0 := (⟨_, _, hm231, (St.up (St.up (St.up hst247 3 rfl) 3 rfl) 2 rfl)⟩ : (fun w => ∃ ζ Y, Le z187 ζ ∧ Ht w0 (frz ζ :: (blk g200 [.slice A191 a7.Add.length c191, .slice A192 a7.Drop.length c192, vu8 a7.Floor, vb a7.Odd, vs a7.Any.Name, vi a7.Any.Kind, vi a7.Any.From, vi a7.Any.To] 32) :: (blk g5 [.slice A188 l188.length c188, vi x189] 38) :: Y) w) _)
            refine ⟨⟨.inr (fun _ => hS0), trivial⟩, ?_⟩
            refine Any.takeE 9 rfl rfl rfl rfl (by kernel_rfl) (fun _ _ _ _ _ h => h) ((Ex.assign rfl).s) ?_
            refine Any.done (by kernel_rfl) ?_
            exact Run.sub (by exact subB_spec ⟨rfl, rfl, rfl, rfl, rfl, rfl, rfl, trivial⟩) (hj202 _ _ ⟨y242.2, y242.1.Refs, y242.1.Floor, g246, A243, c243, z242, hf, rfl, hm231, hy190_0, hz190, f243, (St.up (St.up (St.up (St.forget hst247 2) 1 rfl) 2 rfl) 2 rfl)⟩)
          · skip
            refine ⟨_, rfl, rfl, One.of_ops rfl ?_⟩
            refine Ops.allocF [.slice none 0 0, vi 0] hst238 zr38 rfl rfl (fun g248 w248 hst248 => Ops.stop ?_)
            have hS0 := (⟨_, _, hm231, (St.up (St.up (St.up hst248 3 rfl) 3 rfl) 2 rfl)⟩ : (fun w => ∃ ζ Y, Le z187 ζ ∧ Ht w0 (frz ζ :: (blk g200 [.slice A191 a7.Add.length c191, .slice A192 a7.Drop.length c192, vu8 a7.Floor, vb a7.Odd, vs a7.Any.Name, vi a7.Any.Kind, vi a7.Any.From, vi a7.Any.To] 32) :: (blk g5 [.slice A188 l188.length c188, vi x189] 38) :: Y) w) _)
            refine ⟨⟨.inr (fun _ => hS0), trivial⟩, ?_⟩
            obtain ⟨y249, hy249, hf⟩ := bnd hf
            refine Any.one 3 (by kernel_rfl) rfl rfl (One.of_ops rfl ?_)
            refine Ops.call rfl rfl Try.func15 (by kernel_rfl) (by kernel_rfl) rfl (go_edits_Do.walk (p0 := (⟨l188, x189⟩ : editsSet)) (p1 := y238) (hst := hst248) (f1 := f188) (f3 := f239) (f4 := f240) (hf := hy249)) ?_
            rintro _ w249 ⟨z249, A250, c250, rfl, hz249, f250, hst249⟩
            refine ⟨_, rfl, Ops.stop ?_⟩
            replace f6 := f6.mono hz249; replace f199 := f199.mono hz249; replace f191 := f191.mono hz249; replace f192 := f192.mono hz249; replace f188 := f188.mono hz249; replace f239 := f239.mono hz249; replace f240 := f240.mono hz249
            replace hy190_0 := hy190_0.trans hz249
            replace hz190 := hz190.trans hz249
            replace hm231 := hm231.trans hz249
            have hS0 := (⟨_, _, hm231, (St.up (St.up (St.up hst249 3 rfl) 3 rfl) 2 rfl)⟩ : (fun w => ∃ ζ Y, Le z187 ζ ∧ Ht w0 (frz ζ :: (blk g200 [.slice A191 a7.Add.length c191, .slice A192 a7.Drop.length c192, vu8 a7.Floor, vb a7.Odd, vs a7.Any.Name, vi a7.Any.Kind, vi a7.Any.From, vi a7.Any.To] 32) :: (blk g5 [.slice A188 l188.length c188, vi x189] 38) :: Y) w) _)
            refine ⟨⟨.inr (fun _ => hS0), trivial⟩, ?_⟩
            refine Any.takeE 4 rfl rfl rfl rfl (by kernel_rfl) (fun _ _ _ _ _ h => h) ((Ex.move rfl).s) ?_
            refine Any.takeE 5 rfl rfl rfl rfl (by kernel_rfl) (fun _ _ _ _ _ h => h) ((Ex.extract rfl rfl).s) ?_
            refine Any.takeE 6 rfl rfl rfl rfl (by kernel_rfl) (fun _ _ _ _ _ h => h) ((Ex.extract rfl rfl).s) ?_
            refine Any.one 8 (by kernel_rfl) rfl rfl (One.of_ops rfl ?_)
            refine Ops.store 1 [.slice A250 y249.1.Refs.length c250, vi y249.1.Floor] hst249 rfl rfl rfl rfl sz38 rfl (by simp [Value.oneCell']) (by simp) (fun w253 hst253 => Ops.stop ?_)
            have hS0 := (⟨_, _, hm231, (St.up (St.up (St.up hst253 3 rfl) 3 rfl) 2 rfl)⟩ : (fun w => ∃ ζ Y, Le z187 ζ ∧ Ht w0 (frz ζ :: (blk g200 [.slice A191 a7.Add.length c191, .slice A192 a7.Drop.length c192, vu8 a7.Floor, vb a7.Odd, vs a7.Any.Name, vi a7.Any.Kind, vi a7.Any.From, vi a7.Any.To] 32) :: (blk g5 [.slice A188 l188.length c188, vi x189] 38) :: Y) w) _)
            refine ⟨⟨.inr (fun _ => hS0), trivial⟩, ?_⟩
            refine Any.takeE 9 rfl rfl rfl rfl (by kernel_rfl) (fun _ _ _ _ _ h => h) ((Ex.assign rfl).s) ?_
            refine Any.done (by kernel_rfl) ?_
            exact Run.sub (by exact subB_spec ⟨rfl, rfl, rfl, rfl, rfl, rfl, rfl, trivial⟩) (hj202 _ _ ⟨y249.2, y249.1.Refs, y249.1.Floor, g248, A250, c250, z249, hf, rfl, hm231, hy190_0, hz190, f250, (St.up (St.up (St.up (St.forget hst253 2) 1 rfl) 2 rfl) 2 rfl)⟩)
        · skip
          refine ⟨_, rfl, rfl, One.of_ops rfl ?_⟩
          refine Ops.allocF [.slice none 0 0, vi 0] hst237 zr38 rfl rfl (fun g254 w254 hst254 => Ops.stop ?_)
          have hS0 := (⟨_, _, (Le.refl _), (St.up (St.up (St.up hst254 3 rfl) 3 rfl) 2 rfl)⟩ : (fun w => ∃ ζ Y, Le z187 ζ ∧ Ht w0 (frz ζ :: (blk g200 [.slice A191 a7.Add.length c191, .slice A192 a7.Drop.length c192, vu8 a7.Floor, vb a7.Odd, vs a7.Any.Name, vi a7.Any.Kind, vi a7.Any.From, vi a7.Any.To] 32) :: (blk g5 [.slice A188 l188.length c188, vi x189] 38) :: Y) w) _)
          refine ⟨⟨.inr (fun _ => hS0), trivial⟩, ?_⟩
          obtain ⟨y255, hy255, hf⟩ := bnd hf
          refine Any.one 2 (by kernel_rfl) rfl rfl (One.of_ops rfl ?_)
          refine Ops.call rfl rfl Try.func12 (by kernel_rfl) (by kernel_rfl) rfl (go_law10_Step_Edit.walk (p0 := a7) (hst := hst254) (f1 := f191) (f2 := f192) (hf := hy255)) ?_
          rintro _ w255 ⟨z255, A256, c256, A257, c257, rfl, hz255, f256, f257, hst255⟩
          refine ⟨_, rfl, Ops.stop ?_⟩
          replace f6 := f6.mono hz255; replace f199 := f199.mono hz255; replace f191 := f191.mono hz255; replace f192 := f192.mono hz255; replace f188 := f188.mono hz255
          replace hy190_0 := hy190_0.trans hz255
          replace hz190 := hz190.trans hz255
          replace hm231 := hm231.trans hz255
          have hS0 := (⟨_, _, hm231, (St.up (St.up (St.up hst255 3 rfl) 3 rfl) 2 rfl)⟩ : (fun w => ∃ ζ Y, Le z187 ζ ∧ Ht w0 (frz ζ :: (blk g200 [.slice A191 a7.Add.length c191, .slice A192 a7.Drop.length c192, vu8 a7.Floor, vb a7.Odd, vs a7.Any.Name, vi a7.Any.Kind, vi a7.Any.From, vi a7.Any.To] 32) :: (blk g5 [.slice A188 l188.length c188, vi x189] 38) :: Y) w) _)
          refine ⟨⟨.inr (fun _ => hS0), trivial⟩, ?_⟩
          obtain ⟨y259, hy259, hf⟩ := bnd hf
          refine Any.one 3 (by kernel_rfl) rfl rfl (One.of_ops rfl ?_)
          refine Ops.call rfl rfl Try.func15 (by kernel_rfl) (by kernel_rfl) rfl (go_edits_Do.walk (p0 := (⟨l188, x189⟩ : editsSet)) (p1 := y255) (hst := hst255) (f1 := f188) (f3 := f256) (f4 := f257) (hf := hy259)) ?_
          rintro _ w259 ⟨z259, A260, c260, rfl, hz259, f260, hst259⟩
          refine ⟨_, rfl, Ops.stop ?_⟩
          replace f6 := f6.mono hz259; replace f199 := f199.mono hz259; replace f191 := f191.mono hz259; replace f192 := f192.mono hz259; replace f188 := f188.mono hz259; replace f256 := f256.mono hz259; replace f257 := f257.mono hz259
          replace hy190_0 := hy190_0.trans hz259
          replace hz190 := hz190.trans hz259
          replace hm231 := hm231.trans hz259
          have hS0 := (⟨_, _, hm231, (St.up (St.up (St.up hst259 3 rfl) 3 rfl) 2 rfl)⟩ : (fun w => ∃ ζ Y, Le z187 ζ ∧ Ht w0 (frz ζ :: (blk g200 [.slice A191 a7.Add.length c191, .slice A192 a7.Drop.length c192, vu8 a7.Floor, vb a7.Odd, vs a7.Any.Name, vi a7.Any.Kind, vi a7.Any.From, vi a7.Any.To] 32) :: (blk g5 [.slice A188 l188.length c188, vi x189] 38) :: Y) w) _)
          refine ⟨⟨.inr (fun _ => hS0), trivial⟩, ?_⟩
          refine Any.takeE 4 rfl rfl rfl rfl (by kernel_rfl) (fun _ _ _ _ _ h => h) ((Ex.move rfl).s) ?_
          refine Any.takeE 5 rfl rfl rfl rfl (by kernel_rfl) (fun _ _ _ _ _ h => h) ((Ex.extract rfl rfl).s) ?_
          refine Any.takeE 6 rfl rfl rfl rfl (by kernel_rfl) (fun _ _ _ _ _ h => h) ((Ex.extract rfl rfl).s) ?_
          refine Any.one 8 (by kernel_rfl) rfl rfl (One.of_ops rfl ?_)
          refine Ops.store 1 [.slice A260 y259.1.Refs.length c260, vi y259.1.Floor] hst259 rfl rfl rfl rfl sz38 rfl (by simp [Value.oneCell']) (by simp) (fun w263 hst263 => Ops.stop ?_)
          have hS0 := (⟨_, _, hm231, (St.up (St.up (St.up hst263 3 rfl) 3 rfl) 2 rfl)⟩ : (fun w => ∃ ζ Y, Le z187 ζ ∧ Ht w0 (frz ζ :: (blk g200 [.slice A191 a7.Add.length c191, .slice A192 a7.Drop.length c192, vu8 a7.Floor, vb a7.Odd, vs a7.Any.Name, vi a7.Any.Kind, vi a7.Any.From, vi a7.Any.To] 32) :: (blk g5 [.slice A188 l188.length c188, vi x189] 38) :: Y) w) _)
          refine ⟨⟨.inr (fun _ => hS0), trivial⟩, ?_⟩
          refine Any.takeE 9 rfl rfl rfl rfl (by kernel_rfl) (fun _ _ _ _ _ h => h) ((Ex.assign rfl).s) ?_
          refine Any.done (by kernel_rfl) ?_
          exact Run.sub (by exact subB_spec ⟨rfl, rfl, rfl, rfl, rfl, rfl, rfl, trivial⟩) (hj202 _ _ ⟨y259.2, y259.1.Refs, y259.1.Floor, g254, A260, c260, z259, hf, rfl, hm231, hy190_0, hz190, f260, (St.up (St.up (St.up (St.forget hst263 2) 1 rfl) 2 rfl) 2 rfl)⟩)
      · rintro e' w264 ⟨x234, l235, x236, g233, A235, c235, z232, hf, rfl, hz264, hy264_0, hy264_1, f235, hst264⟩
        replace f6 := f6.mono hz264; replace f188 := f188.mono hz264
        unfold go_law10_EditsFloor.j1 at hf
        refine Run.seq ?_
        refine Run.seq ?_
        have hm266 := Le.refl z232
        apply Run.jn (fun e' w' => ∃ (b268 : Bool) (z267 : Zp), go_law10_EditsFloor.j2 l188 x189 nxb7 x234 l235 x236 b268 = some r ∧ e' = [(1, vu8 p1), (5, .pointer (some ⟨g5, 0, none⟩)), (8, .pointer (some ⟨g233, 0, none⟩)), (9, vi x234), (18, .slice A6 l6.length c6), (19, vi (l6.length : Int)), (20, vi (i7 : Int)), (39, vb b268)] ∧ Le z232 z267 ∧ Le z0 z267 ∧ Le z3 z267 ∧ Le z187 z267 ∧ Ht w0 (frz z267 :: (blk g5 [.slice A188 l188.length c188, vi x189] 38) :: (blk g233 [.slice A235 l235.length c235, vi x236] 38) :: X) w')
        · intro hj265
          refine Run.region ?_
          refine Ops.ex (Ex.move rfl) rfl rfl rfl ?_
          refine Ops.ex (Ex.eqlI rfl rfl) rfl rfl rfl ?_
          refine Ops.ex (Ex.move rfl) rfl rfl rfl ?_
          refine Ops.case 33 rfl (fun hc => ?_) (fun hc => ?_)
          · replace hf := ifT (dec_T hc) hf
            refine Ops.on rfl ?_
            refine Ops.ex (Ex.fieldAddr rfl Try.underlying38 rfl sz3) rfl rfl rfl ?_
            refine Ops.on rfl ?_
            refine Ops.load rfl Try.underlying3 rfl (hst264.cell (i := 2) rfl rfl) rfl ?_
            refine Ops.on rfl ?_
            refine Ops.ex (Ex.fieldAddr rfl Try.underlying38 rfl sz3) rfl rfl rfl ?_
            refine Ops.on rfl ?_
            refine Ops.load rfl Try.underlying3 rfl (hst264.cell (i := 1) rfl rfl) rfl ?_
            refine Ops.on rfl ?_
            refine Ops.ex (Ex.lss rfl rfl) rfl rfl rfl ?_
            refine Ops.ex (Ex.pickT rfl rfl) rfl rfl rfl ?_
            refine Ops.nil ?_
            exact Run.sub (by exact subB_spec ⟨rfl, rfl, rfl, rfl, rfl, rfl, rfl, rfl, trivial⟩) (hj265 _ _ ⟨decide (x236 < x189), z232, hf, rfl, hm266, hy264_0, hy264_1, hz264, hst264⟩)
          · replace hf := ifF (dec_F hc) hf
            refine Ops.off rfl rfl ?_
            refine Ops.off rfl rfl ?_
            refine Ops.off rfl rfl ?_
            refine Ops.off rfl rfl ?_
            refine Ops.off rfl rfl ?_
            refine Ops.ex (Ex.pickF rfl rfl) rfl rfl rfl ?_
            refine Ops.nil ?_
            exact Run.sub (by exact subB_spec ⟨rfl, rfl, rfl, rfl, rfl, rfl, rfl, rfl, trivial⟩) (hj265 _ _ ⟨false, z232, hf, rfl, hm266, hy264_0, hy264_1, hz264, hst264⟩)
        · rintro e' w269 ⟨b268, z267, hf, rfl, hz269, hy269_0, hy269_1, hy269_2, hst269⟩
          replace f6 := f6.mono hz269; replace f188 := f188.mono hz269; replace f235 := f235.mono hz269
          unfold go_law10_EditsFloor.j2 at hf
          refine Run.cond rfl (fun hc => ?_) (fun hc => ?_)
          · replace hf := ifTb hc hf
            refine Run.seq ?_
            refine Run.region ?_
            refine Ops.ex (Ex.assign rfl) rfl rfl rfl ?_
            refine Ops.nil ?_
            obtain rfl := Option.some.inj hf
            exact Run.retV [vb false] rfl ⟨rfl, trivial⟩ ⟨z267, rfl, hy269_0, (St.forget (St.forget hst269 2) 1)⟩
          · replace hf := ifFb hc hf
            refine Run.skip ?_
            refine Run.seq ?_
            refine Run.region ?_
            refine Ops.ex (Ex.move rfl) rfl rfl rfl ?_
            refine Ops.ex (Ex.eqlI rfl rfl) rfl rfl rfl ?_
            refine Ops.nil ?_
            refine Run.cond rfl (fun hc => ?_) (fun hc => ?_)
            · replace hf := ifT (dec_T hc) hf
              refine Run.region ?_
              refine Ops.loadAgg _ rfl Try.underlying38 rfl sz38 rfl (hst269.cells (i := 2) rfl 0 2) rfl ?_
              refine Ops.store 1 [.slice A235 l235.length c235, vi x236] hst269 rfl rfl rfl rfl sz38 rfl (by simp [Value.oneCell']) (by simp) (fun w270 hst270 => ?_)
              refine Ops.nil ?_
              refine Run.endBlk ?_
              refine Run.region ?_
              refine Ops.ex (Ex.add rfl rfl) rfl rfl rfl ?_
              refine Ops.ex (Ex.move rfl) rfl rfl rfl ?_
              refine Ops.nil ?_
              refine Run.re 20 rfl (congrArg vi (wr_succ' hl7 hc7)) ?_
              exact Run.sub (by exact subB_spec ⟨rfl, rfl, rfl, rfl, rfl, trivial⟩) (Run.stop ⟨l6.length - (i7 + 1), by omega, i7 + 1, l235, x236, A235, c235, z267, rfl, by omega, (hnxb7 _).symm.trans hf, rfl, hy269_1, hy269_0, f235, (St.forget hst270 2)⟩)
            · replace hf := ifF (dec_F hc) hf
              refine Run.skip ?_
              refine Run.endBlk ?_
              refine Run.region ?_
              refine Ops.ex (Ex.add rfl rfl) rfl rfl rfl ?_
              refine Ops.ex (Ex.move rfl) rfl rfl rfl ?_
              refine Ops.nil ?_
              refine Run.re 20 rfl (congrArg vi (wr_succ' hl7 hc7)) ?_
              exact Run.sub (by exact subB_spec ⟨rfl, rfl, rfl, rfl, rfl, trivial⟩) (Run.stop ⟨l6.length - (i7 + 1), by omega, i7 + 1, l188, x189, A188, c188, z267, rfl, by omega, (hnxb7 _).symm.trans hf, rfl, hy269_1, hy269_0, f188, (St.forget hst269 2)⟩)
    · replace hf := forL_out hf (nlt_of_dec hc)
      try dsimp only at hf
      refine Run.exit _ rfl ?_
      refine Run.seq ?_
      refine Run.region ?_
      refine Ops.loadAgg _ rfl Try.underlying38 rfl sz38 rfl (hst190.cells (i := 1) rfl 0 2) rfl ?_
      refine Ops.ex (Ex.move rfl) rfl rfl rfl ?_
      refine Ops.ex (Ex.cu8 rfl Try.underlying5 Try.underlying3) rfl rfl rfl ?_
      refine Ops.ex (Ex.build [.slice none 0 0, .slice none 0 0, vi (p1.toNat : Int)] rfl Try.underlying29 zr29 (pl29 Try.underlying29) (by kernel_rfl)) rfl rfl rfl ?_
      obtain ⟨y271, hy271, hf⟩ := bnd hf
      refine Ops.call rfl rfl Try.func15 (by kernel_rfl) (by kernel_rfl) rfl (go_edits_Do.walk (p0 := (⟨l188, x189⟩ : editsSet)) (p1 := (⟨[], [], (p1.toNat : Int)⟩ : editsEdit)) (hst := hst190) (f1 := f188) (f3 := Sl.nil _ _) (f4 := Sl.nil _ _) (hf := hy271)) ?_
      rintro _ w271 ⟨z271, A272, c272, rfl, hz271, f272, hst271⟩
      refine ⟨_, rfl, ?_⟩
      replace f6 := f6.mono hz271; replace f188 := f188.mono hz271
      replace hy190_0 := hy190_0.trans hz271
      replace hz190 := hz190.trans hz271
      refine Ops.ex (Ex.move rfl) rfl rfl rfl ?_
      refine Ops.ex (Ex.extract rfl rfl) rfl rfl rfl ?_
      refine Ops.ex (Ex.extract rfl rfl) rfl rfl rfl ?_
      refine Ops.allocF [.slice none 0 0, vi 0] hst271 zr38 rfl rfl (fun g275 w275 hst275 => ?_)
      refine Ops.store 1 [.slice A272 y271.1.Refs.length c272, vi y271.1.Floor] hst275 rfl rfl rfl rfl sz38 rfl (by simp [Value.oneCell']) (by simp) (fun w276 hst276 => ?_)
      refine Ops.ex (Ex.assign rfl) rfl rfl rfl ?_
      refine Ops.nil ?_
      refine Run.seq ?_
      refine Run.region ?_
      refine Ops.ex (Ex.move rfl) rfl rfl rfl ?_
      refine Ops.ex (Ex.eqlI rfl rfl) rfl rfl rfl ?_
      refine Ops.ex (Ex.move rfl) rfl rfl rfl ?_
      refine Ops.ex (Ex.cu8 rfl Try.underlying5 Try.underlying3) rfl rfl rfl ?_
      refine Ops.ex (Ex.fieldAddr rfl Try.underlying38 rfl sz3) rfl rfl rfl ?_
      refine Ops.load rfl Try.underlying3 rfl (hst276.cell (i := 2) rfl rfl) rfl ?_
      refine Ops.ex (Ex.geq rfl rfl) rfl rfl rfl ?_
      refine Ops.ex (Ex.eqlBo rfl rfl Try.underlying4) rfl rfl rfl ?_
      refine Ops.ex (Ex.move rfl) rfl rfl rfl ?_
      refine Ops.case 60 rfl (fun hc => ?_) (fun hc => ?_)
      · replace hf := ifT (dec_T hc) hf
        refine Ops.on rfl ?_
        refine Ops.ex (Ex.move rfl) rfl rfl rfl ?_
        refine Ops.on rfl ?_
        refine Ops.ex (Ex.neqI rfl rfl) rfl rfl rfl ?_
        refine Ops.on rfl ?_
        refine Ops.ex (Ex.move rfl) rfl rfl rfl ?_
        refine Ops.case 63 rfl (fun hc => ?_) (fun hc => ?_)
        · replace hf := ifF (neq_T hc) hf
          refine Ops.off rfl rfl ?_
          refine Ops.off rfl rfl ?_
          refine Ops.off rfl rfl ?_
          refine Ops.off rfl rfl ?_
          refine Ops.off rfl rfl ?_
          refine Ops.off rfl rfl ?_
          refine Ops.offU rfl rfl ?_
          refine Ops.offU rfl rfl ?_
          refine Ops.offU rfl rfl ?_
          refine Ops.offU rfl rfl ?_
          refine Ops.offU rfl rfl ?_
          refine Ops.offU rfl rfl ?_
          refine Ops.offU rfl rfl ?_
          refine Ops.off rfl rfl ?_
          refine Ops.on rfl ?_
          refine Ops.ex (Ex.pickT rfl rfl) rfl rfl rfl ?_
          refine Ops.ex (Ex.pickT rfl rfl) rfl rfl rfl ?_
          refine Ops.ex (Ex.assign rfl) rfl rfl rfl ?_
          refine Ops.nil ?_
          obtain rfl := Option.some.inj hf
          exact Run.retV [vb true] rfl ⟨rfl, trivial⟩ ⟨z271, rfl, hy190_0, (St.forget (St.forget hst276 2) 1)⟩
        · replace hf := ifT (neq_F hc) hf
          refine Ops.on rfl ?_
          refine Ops.ex (Ex.fieldAddr rfl Try.underlying38 rfl sz3) rfl rfl rfl ?_
          refine Ops.on rfl ?_
          refine Ops.load rfl Try.underlying3 rfl (hst276.cell (i := 1) rfl rfl) rfl ?_
          refine Ops.on rfl ?_
          refine Ops.ex (Ex.move rfl) rfl rfl rfl ?_
          refine Ops.on rfl ?_
          refine Ops.ex (Ex.cu8 rfl Try.underlying5 Try.underlying3) rfl rfl rfl ?_
          refine Ops.on rfl ?_
          refine Ops.ex (Ex.eqlI rfl rfl) rfl rfl rfl ?_
          refine Ops.on rfl ?_
          refine Ops.ex (Ex.move rfl) rfl rfl rfl ?_
          refine Ops.case 69 rfl (fun hc => ?_) (fun hc => ?_)
          · replace hf := ifT (dec_T hc) hf
            refine Ops.on rfl ?_
            refine Ops.ex (Ex.fieldAddr rfl Try.underlying38 rfl sz26) rfl rfl rfl ?_
            refine Ops.on rfl ?_
            refine Ops.load rfl Try.underlying26 rfl (hst276.cell (i := 1) rfl rfl) rfl ?_
            refine Ops.on rfl ?_
            refine Ops.ex (Ex.len' rfl rfl rfl Try.underlying26) rfl rfl rfl ?_
            refine Ops.on rfl ?_
            refine Ops.ex (Ex.fieldAddr rfl Try.underlying38 rfl sz26) rfl rfl rfl ?_
            refine Ops.on rfl ?_
            refine Ops.load rfl Try.underlying26 rfl (hst276.cell (i := 2) rfl rfl) rfl ?_
            refine Ops.on rfl ?_
            refine Ops.ex (Ex.len' rfl rfl rfl Try.underlying26) rfl rfl rfl ?_
            refine Ops.on rfl ?_
            refine Ops.ex (Ex.eqlI rfl rfl) rfl rfl rfl ?_
            refine Ops.on rfl ?_
            refine Ops.ex (Ex.pickT rfl rfl) rfl rfl rfl ?_
            refine Ops.on rfl ?_
            refine Ops.ex (Ex.pickF rfl rfl) rfl rfl rfl ?_
            refine Ops.ex (Ex.pickT rfl rfl) rfl rfl rfl ?_
            refine Ops.ex (Ex.assign rfl) rfl rfl rfl ?_
            refine Ops.nil ?_
            obtain rfl := Option.some.inj hf
            exact Run.retV [vb (decide ((y271.1.Refs.length : Int) = (l188.length : Int)))] rfl ⟨rfl, trivial⟩ ⟨z271, rfl, hy190_0, (St.forget (St.forget hst276 2) 1)⟩
          · replace hf := ifF (dec_F hc) hf
            refine Ops.off rfl rfl ?_
            refine Ops.off rfl rfl ?_
            refine Ops.off rfl rfl ?_
            refine Ops.off rfl rfl ?_
            refine Ops.off rfl rfl ?_
            refine Ops.off rfl rfl ?_
            refine Ops.off rfl rfl ?_
            refine Ops.on rfl ?_
            refine Ops.ex (Ex.pickF rfl rfl) rfl rfl rfl ?_
            refine Ops.on rfl ?_
            refine Ops.ex (Ex.pickF rfl rfl) rfl rfl rfl ?_
            refine Ops.ex (Ex.pickT rfl rfl) rfl rfl rfl ?_
            refine Ops.ex (Ex.assign rfl) rfl rfl rfl ?_
            refine Ops.nil ?_
            obtain rfl := Option.some.inj hf
            exact Run.retV [vb false] rfl ⟨rfl, trivial⟩ ⟨z271, rfl, hy190_0, (St.forget (St.forget hst276 2) 1)⟩
      · replace hf := ifF (dec_F hc) hf
        refine Ops.off rfl rfl ?_
        refine Ops.off rfl rfl ?_
        refine Ops.off rfl rfl ?_
        refine Ops.offU rfl rfl ?_
        refine Ops.offU rfl rfl ?_
        refine Ops.offU rfl rfl ?_
        refine Ops.offU rfl rfl ?_
        refine Ops.offU rfl rfl ?_
        refine Ops.offU rfl rfl ?_
        refine Ops.offU rfl rfl ?_
        refine Ops.offU rfl rfl ?_
        refine Ops.offU rfl rfl ?_
        refine Ops.offU rfl rfl ?_
        refine Ops.offU rfl rfl ?_
        refine Ops.offU rfl rfl ?_
        refine Ops.offU rfl rfl ?_
        refine Ops.offU rfl rfl ?_
        refine Ops.off rfl rfl ?_
        refine Ops.ex (Ex.pickF rfl rfl) rfl rfl rfl ?_
        refine Ops.ex (Ex.assign rfl) rfl rfl rfl ?_
        refine Ops.nil ?_
        obtain rfl := Option.some.inj hf
        exact Run.retV [vb false] rfl ⟨rfl, trivial⟩ ⟨z271, rfl, hy190_0, (St.forget (St.forget hst276 2) 1)⟩
def go_law10_EditsOnce.j1 (l246 : List apiRef) (x247 : Int) (a7 : law10Step) (nxb7 : (List apiRef × Int) → Option Bool) (x292 : Int) (l293 : List apiRef) (x294 : Int) : Option Bool :=
  if x292 = 0 then (if a7.Odd then (nxb7 (l246, x247)) else (nxb7 (l293, x294))) else (nxb7 (l246, x247))
def go_law10_EditsOnce.b1 (i7 : Nat) (a7 : law10Step) : (List apiRef × Int) → (List apiRef × Int → Option Bool) → Option Bool :=
  fun (l246, x247) nxb7 => (go_law10_Step_Edit a7).bind fun y296 => (go_edits_Do (⟨l246, x247⟩ : editsSet) y296).bind fun y300 => go_law10_EditsOnce.j1 l246 x247 a7 nxb7 y300.2 y300.1.Refs y300.1.Floor
def go_law10_EditsOnce (p0 : List law10Step) (p1 : UInt8) : Option Bool :=
  (go_law10_awake).bind fun y3 => if y3 then ((cutI p0 0 (min (p0.length : Int) 30)).bind fun l6 => forL (go_law10_EditsOnce.b1) (fun (l246, x247) => (go_edits_Do (⟨l246, x247⟩ : editsSet) (⟨[(⟨[122, 122], 2, (p1.toNat : Int), (p1.toNat : Int)⟩ : apiRef)], [], x247⟩ : editsEdit)).bind fun y327 => (go_edits_Do y327.1 (⟨[(⟨[122, 122], 2, (p1.toNat : Int), (p1.toNat : Int)⟩ : apiRef)], [], y327.1.Floor⟩ : editsEdit)).bind fun y335 => (go_edits_Do y327.1 (⟨[], [[122, 122]], y327.1.Floor⟩ : editsEdit)).bind fun y343 => (go_edits_Do y343.1 (⟨[], [[122, 122]], y343.1.Floor⟩ : editsEdit)).bind fun y351 => if y327.2 = 0 then (if y335.2 = 5 then (if y343.2 = 0 then (if y351.2 = 6 then (if (y343.1.Refs.length : Int) = (l246.length : Int) then ((go_edits_Find y327.1 [122, 122]).bind fun y360 => if y360 = (l246.length : Int) then ((go_edits_Find y343.1 [122, 122]).bind fun y362 => some (decide (y362 = (-1)))) else (some false)) else (some false)) else (some false)) else (some false)) else (some false)) else (some false)) 0 l6 ([], 0)) else (some false)
set_option maxRecDepth 100000 in
set_option maxHeartbeats 4000000 in
theorem go_law10_EditsOnce.walk {w0 w : World} {X : List Res} {z0 : Zp} {p0 : List law10Step} {A1 : Option Addr} {c1 : Nat} {p1 : UInt8} {r : Bool} (hst : Ht w0 (frz z0 :: X) w) (f1 : Sl tlaw10Step z0 A1 c1 p0) (hf : go_law10_EditsOnce p0 p1 = some r) :
    Calls Try.prog 5 #[.slice A1 p0.length c1, vu8 p1] w fun e w' => ∃ (z' : Zp), e = .returned (vb r) ∧ Le z0 z' ∧ Ht w0 (frz z' :: X) w' := by
  refine calls_np Try.func5 rfl rfl ?_
  have hle0 := Le.refl z0
  unfold go_law10_EditsOnce at hf
  refine Run.seq ?_
  refine Run.region ?_
  refine Ops.ex (Ex.assign rfl) rfl rfl rfl ?_
  refine Ops.nil ?_
  refine Run.seq ?_
  refine Run.seq ?_
  refine Run.region ?_
  obtain ⟨y3, hy3, hf⟩ := bnd hf
  refine Ops.call rfl rfl Try.func11 (by kernel_rfl) (by kernel_rfl) rfl (go_law10_awake.walk (hst := hst) (hf := hy3)) ?_
  rintro _ w3 ⟨z3, rfl, hz3, hst3⟩
  refine ⟨_, rfl, ?_⟩
  replace f1 := f1.mono hz3
  replace hle0 := hle0.trans hz3
  refine Ops.ex (Ex.not rfl) rfl rfl rfl ?_
  refine Ops.nil ?_
  refine Run.cond rfl (fun hc => ?_) (fun hc => ?_)
  · replace hf := ifFb (bn_T hc) hf
    refine Run.seq ?_
    refine Run.region ?_
    refine Ops.ex (Ex.assign rfl) rfl rfl rfl ?_
    refine Ops.nil ?_
    obtain rfl := Option.some.inj hf
    exact Run.retV [vb false] rfl ⟨rfl, trivial⟩ ⟨z3, rfl, hle0, hst3⟩
  · replace hf := ifTb (bn_F hc) hf
    refine Run.skip ?_
    refine Run.seq ?_
    refine Run.region ?_
    refine Ops.allocF [.slice none 0 0, vi 0] hst3 zr38 rfl rfl (fun g5 w5 hst5 => ?_)
    refine Ops.nil ?_
    refine Run.seq ?_
    refine Run.seq ?_
    refine Run.region ?_
    refine Ops.ex (Ex.move rfl) rfl rfl rfl ?_
    refine Ops.ex (Ex.move rfl) rfl rfl rfl ?_
    refine Ops.ex (Ex.len' rfl rfl rfl Try.underlying36) rfl rfl rfl ?_
    refine Ops.ex (Ex.min2 rfl rfl rfl) rfl rfl rfl ?_
    obtain ⟨l6, hy6, hf⟩ := bnd hf
    obtain ⟨A6, c6, hA6, hB6, f6⟩ := SlH.sub f1.toH hy6
    replace f6 := f6.toS
    refine Ops.ex (Ex.subA hA6 hB6 hy6 rfl rfl Try.underlying36 sz32 rfl rfl) rfl rfl rfl ?_
    refine Ops.ex (Ex.len' rfl rfl rfl Try.underlying36) rfl rfl rfl ?_
    refine Ops.ex (Ex.move rfl) rfl rfl rfl ?_
    refine Ops.nil ?_
    refine Run.block ?_
    have hc7 := f6.cap
    have hm8 := Le.refl z3
    refine Run.sub (e' := [(1, vu8 p1), (5, .pointer (some ⟨g5, 0, none⟩)), (25, .slice A6 l6.length c6), (26, vi (l6.length : Int)), (27, vi ((0 : Nat) : Int))]) (subB_spec ⟨rfl, rfl, rfl, rfl, rfl, trivial⟩) ?_
    refine Run.loop (fun mb7 => (fun e' w' => ∃ (i7 : Nat) (l246 : List apiRef) (x247 : Int) (A246 : Option Addr) (c246 : Nat) (z245 : Zp), mb7 = l6.length - i7 ∧ i7 ≤ l6.length ∧ forL (go_law10_EditsOnce.b1) (fun (l246, x247) => (go_edits_Do (⟨l246, x247⟩ : editsSet) (⟨[(⟨[122, 122], 2, (p1.toNat : Int), (p1.toNat : Int)⟩ : apiRef)], [], x247⟩ : editsEdit)).bind fun y327 => (go_edits_Do y327.1 (⟨[(⟨[122, 122], 2, (p1.toNat : Int), (p1.toNat : Int)⟩ : apiRef)], [], y327.1.Floor⟩ : editsEdit)).bind fun y335 => (go_edits_Do y327.1 (⟨[], [[122, 122]], y327.1.Floor⟩ : editsEdit)).bind fun y343 => (go_edits_Do y343.1 (⟨[], [[122, 122]], y343.1.Floor⟩ : editsEdit)).bind fun y351 => if y327.2 = 0 then (if y335.2 = 5 then (if y343.2 = 0 then (if y351.2 = 6 then (if (y343.1.Refs.length : Int) = (l246.length : Int) then ((go_edits_Find y327.1 [122, 122]).bind fun y360 => if y360 = (l246.length : Int) then ((go_edits_Find y343.1 [122, 122]).bind fun y362 => some (decide (y362 = (-1)))) else (some false)) else (some false)) else (some false)) else (some false)) else (some false)) else (some false)) i7 (l6.drop i7) (l246, x247) = some r ∧ e' = [(1, vu8 p1), (5, .pointer (some ⟨g5, 0, none⟩)), (25, .slice A6 l6.length c6), (26, vi (l6.length : Int)), (27, vi (i7 : Int))] ∧ Le z3 z245 ∧ Le z0 z245 ∧ Sl tapiRef z245 A246 c246 l246 ∧ Ht w0 (frz z245 :: (blk g5 [.slice A246 l246.length c246, vi x247] 38) :: X) w')) l6.length ⟨0, [], 0, none, 0, z3, rfl, Nat.zero_le _, hf, rfl, hm8, hle0, (Sl.nil _ _), hst5⟩ ?_
    rintro _ e' w248 ⟨i7, l246, x247, A246, c246, z245, rfl, hi7, hf, rfl, hz248, hy248_0, f246, hst248⟩
    replace f6 := f6.mono hz248
    refine Run.seq ?_
    refine Run.region ?_
    refine Ops.ex (Ex.lss rfl rfl) rfl rfl rfl ?_
    refine Ops.nil ?_
    refine Run.seq ?_
    refine Run.cond rfl (fun hc => ?_) (fun hc => ?_)
    · have hl7 := lt_of_dec hc
      obtain ⟨a7, nxb7, ha7, hnxb7, hf⟩ := forL_in hf hl7
      unfold go_law10_EditsOnce.b1 at hf
      try dsimp only at hf
      refine Run.skip ?_
      refine Run.seq ?_
      refine Run.block ?_
      refine Run.seq ?_
      refine Run.region ?_
      obtain ⟨g257, p257, o257, cs257, hA257, ho257, hr257, f257⟩ := SlH.elem f6.toH (atI_nat ha7)
      obtain ⟨A249, c249, A250, c250, rfl, f249, f250⟩ := hr257
      refine Ops.ex (Ex.ixA hA257 ho257 (atI_nat ha7) rfl rfl rfl Try.underlying36 sz32) rfl rfl rfl ?_
      refine Ops.loadAgg [.slice A249 a7.Add.length c249, .slice A250 a7.Drop.length c250, vu8 a7.Floor, vb a7.Odd, vs a7.Any.Name, vi a7.Any.Kind, vi a7.Any.From, vi a7.Any.To] rfl Try.underlying32 rfl sz32 rfl (cells_of_zc rfl (f257.mono hst248.le)) rfl ?_
      refine Ops.allocF [.slice none 0 0, .slice none 0 0, vu8 0, vb false, vs [], vi 0, vi 0, vi 0] hst248 zr32 rfl rfl (fun g258 w258 hst258 => ?_)
      refine Ops.store 1 [.slice A249 a7.Add.length c249, .slice A250 a7.Drop.length c250, vu8 a7.Floor, vb a7.Odd, vs a7.Any.Name, vi a7.Any.Kind, vi a7.Any.From, vi a7.Any.To] hst258 rfl rfl rfl rfl sz32 rfl (by simp [Value.oneCell']) (by simp) (fun w259 hst259 => ?_)
      refine Ops.nil ?_
      refine Run.seq ?_
      have hm289 := Le.refl z245
      apply Run.jn (fun e' w' => ∃ (x292 : Int) (l293 : List apiRef) (x294 : Int) (g291 : Nat) (A293 : Option Addr) (c293 : Nat) (z290 : Zp), go_law10_EditsOnce.j1 l246 x247 a7 nxb7 x292 l293 x294 = some r ∧ e' = [(1, vu8 p1), (5, .pointer (some ⟨g5, 0, none⟩)), (7, .pointer (some ⟨g258, 0, none⟩)), (8, .pointer (some ⟨g291, 0, none⟩)), (9, vi x292), (25, .slice A6 l6.length c6), (26, vi (l6.length : Int)), (27, vi (i7 : Int))] ∧ Le z245 z290 ∧ Le z0 z290 ∧ Le z3 z290 ∧ Sl tapiRef z290 A293 c293 l293 ∧ Ht w0 (frz z290 :: (blk g258 [.slice A249 a7.Add.length c249, .slice A250 a7.Drop.length c250, vu8 a7.Floor, vb a7.Odd, vs a7.Any.Name, vi a7.Any.Kind, vi a7.Any.From, vi a7.Any.To] 32) :: (blk g5 [.slice A246 l246.length c246, vi x247] 38) :: (blk g291 [.slice A293 l293.length c293, vi x294] 38) :: X) w')
      · intro hj260
        refine Run.drawH [([], fun w => ∃ ζ Y, Le z245 ζ ∧ Ht w0 (frz ζ :: (blk g258 [.slice A249 a7.Add.length c249, .slice A250 a7.Drop.length c250, vu8 a7.Floor, vb a7.Odd, vs a7.Any.Name, vi a7.Any.Kind, vi a7.Any.From, vi a7.Any.To] 32) :: (blk g5 [.slice A246 l246.length c246, vi x247] 38) :: Y) w)] (by kernel_rfl) hst259 (fun w295 hst295 => ?_)
        have hS0 := (⟨_, _, (Le.refl _), (St.up (St.up (St.up hst295 2 rfl) 2 rfl) 2 rfl)⟩ : (fun w => ∃ ζ Y, Le z245 ζ ∧ Ht w0 (frz ζ :: (blk g258 [.slice A249 a7.Add.length c249, .slice A250 a7.Drop.length c250, vu8 a7.Floor, vb a7.Odd, vs a7.Any.Name, vi a7.Any.Kind, vi a7.Any.From, vi a7.Any.To] 32) :: (blk g5 [.slice A246 l246.length c246, vi x247] 38) :: Y) w) _)
        refine Any.take 0 0 rfl rfl rfl rfl rfl (by kernel_rfl) (fun _ _ _ _ _ h => h) (ExS.loadAgg [.slice A246 l246.length c246, vi x247] rfl Try.underlying38 rfl sz38 rfl (fun w hS => by obtain ⟨_, _, _, hs⟩ := hS; exact hs.cells (i := 2) rfl 0 2)) hS0 ?_
        refine Any.take 0 1 rfl rfl rfl rfl rfl (by kernel_rfl) (fun _ _ _ _ _ h => h) (ExS.loadAgg [.slice A249 a7.Add.length c249, .slice A250 a7.Drop.length c250, vu8 a7.Floor, vb a7.Odd, vs a7.Any.Name, vi a7.Any.Kind, vi a7.Any.From, vi a7.Any.To] rfl Try.underlying32 rfl sz32 rfl (fun w hS => by obtain ⟨_, _, _, hs⟩ := hS; exact hs.cells (i := 1) rfl 0 8)) hS0 ?_
        refine Any.all [2, 7] (by kernel_rfl) rfl (fun i hi => ?_)
        simp only [List.mem_cons, List.not_mem_nil, or_false] at hi
        rcases hi with rfl | rfl
        · skip
          obtain ⟨y296, hy296, hf⟩ := bnd hf
          refine ⟨_, rfl, rfl, One.of_ops rfl ?_⟩
          refine Ops.call rfl rfl Try.func12 (by kernel_rfl) (by kernel_rfl) rfl (go_law10_Step_Edit.walk (p0 := a7) (hst := hst295) (f1 := f249) (f2 := f250) (hf := hy296)) ?_
          rintro _ w296 ⟨z296, A297, c297, A298, c298, rfl, hz296, f297, f298, hst296⟩
          refine ⟨_, rfl, Ops.stop ?_⟩
          replace f6 := f6.mono hz296; replace f257 := f257.mono hz296; replace f249 := f249.mono hz296; replace f250 := f250.mono hz296; replace f246 := f246.mono hz296
          replace hy248_0 := hy248_0.trans hz296
          replace hz248 := hz248.trans hz296
          replace hm289 := hm289.trans hz296
          have hS0 := (⟨_, _, hm289, (St.up (St.up (St.up hst296 2 rfl) 2 rfl) 2 rfl)⟩ : (fun w => ∃ ζ Y, Le z245 ζ ∧ Ht w0 (frz ζ :: (blk g258 [.slice A249 a7.Add.length c249, .slice A250 a7.Drop.length c250, vu8 a7.Floor, vb a7.Odd, vs a7.Any.Name, vi a7.Any.Kind, vi a7.Any.From, vi a7.Any.To] 32) :: (blk g5 [.slice A246 l246.length c246, vi x247] 38) :: Y) w) _)
          refine ⟨⟨.inr (fun _ => hS0), trivial⟩, ?_⟩
          refine Any.all [3, 7] (by kernel_rfl) rfl (fun i hi => ?_)
          simp only [List.mem_cons, List.not_mem_nil, or_false] at hi
          rcases hi with rfl | rfl
          · skip
            obtain ⟨y300, hy300, hf⟩ := bnd hf
            refine ⟨_, rfl, rfl, One.of_ops rfl ?_⟩
            refine Ops.call rfl rfl Try.func15 (by kernel_rfl) (by kernel_rfl) rfl (go_edits_Do.walk (p0 := (⟨l246, x247⟩ : editsSet)) (p1 := y296) (hst := hst296) (f1 := f246) (f3 := f297) (f4 := f298) (hf := hy300)) ?_
            rintro _ w300 ⟨z300, A301, c301, rfl, hz300, f301, hst300⟩
            refine ⟨_, rfl, Ops.stop ?_⟩
            replace f6 := f6.mono hz300; replace f257 := f257.mono hz300; replace f249 := f249.mono hz300; replace f250 := f250.mono hz300; replace f246 := f246.mono hz300; replace f297 := f297.mono hz300; replace f298 := f298.mono hz300
            replace hy248_0 := hy248_0.trans hz300
            replace hz248 := hz248.trans hz300
            replace hm289 := hm289.trans hz300
            have hS0 := (⟨_, _, hm289, (St.up (St.up (St.up hst300 2 rfl) 2 rfl) 2 rfl)⟩ : (fun w => ∃ ζ Y, Le z245 ζ ∧ Ht w0 (frz ζ :: (blk g258 [.slice A249 a7.Add.length c249, .slice A250 a7.Drop.length c250, vu8 a7.Floor, vb a7.Odd, vs a7.Any.Name, vi a7.Any.Kind, vi a7.Any.From, vi a7.Any.To] 32) :: (blk g5 [.slice A246 l246.length c246, vi x247] 38) :: Y) w) _)
            refine ⟨⟨.inr (fun _ => hS0), trivial⟩, ?_⟩
            refine Any.takeE 4 rfl rfl rfl rfl (by kernel_rfl) (fun _ _ _ _ _ h => h) ((Ex.move rfl).s) ?_
            refine Any.takeE 5 rfl rfl rfl rfl (by kernel_rfl) (fun _ _ _ _ _ h => h) ((Ex.extract rfl rfl).s) ?_
            refine Any.takeE 6 rfl rfl rfl rfl (by kernel_rfl) (fun _ _ _ _ _ h => h) ((Ex.extract rfl rfl).s) ?_
            refine Any.one 7 (by kernel_rfl) rfl rfl (One.of_ops rfl ?_)
            refine Ops.allocF [.slice none 0 0, vi 0] hst300 zr38 rfl rfl (fun g304 w304 hst304 => Ops.stop ?_)
            have hS0 := (⟨_, _, hm289, (St.up (St.up (St.up hst304 3 rfl) 3 rfl) 2 rfl)⟩ : (fun w => ∃ ζ Y, Le z245 ζ ∧ Ht w0 (frz ζ :: (blk g258 [.slice A249 a7.Add.length c249, .slice A250 a7.Drop.length c250, vu8 a7.Floor, vb a7.Odd, vs a7.Any.Name, vi a7.Any.Kind, vi a7.Any.From, vi a7.Any.To] 32) :: (blk g5 [.slice A246 l246.length c246, vi x247] 38) :: Y) w) _)
            refine ⟨⟨.inr (fun _ => hS0), trivial⟩, ?_⟩
            refine Any.one 8 (by kernel_rfl) rfl rfl (One.of_ops rfl ?_)
            refine Ops.store 1 [.slice A301 y300.1.Refs.length c301, vi y300.1.Floor] hst304 rfl rfl rfl rfl sz38 rfl (by simp [Value.oneCell']) (by simp) (fun w305 hst305 => Ops.stop ?_)
            have hS0 := (⟨_, _, hm289, (St.up (St.up (St.up hst305 3 rfl) 3 rfl) 2 rfl)⟩ : (fun w => ∃ ζ Y, Le z245 ζ ∧ Ht w0 (frz ζ :: (blk g258 [.slice A249 a7.Add.length c249, .slice A250 a7.Drop.length c250, vu8 a7.Floor, vb a7.Odd, vs a7.Any.Name, vi a7.Any.Kind, vi a7.Any.From, vi a7.Any.To] 32) :: (blk g5 [.slice A246 l246.length c246, vi x247] 38) :: Y) w) _)
            refine ⟨⟨.inr (fun _ => hS0), trivial⟩, ?_⟩
            refine Any.takeE 9 rfl rfl rfl rfl (by kernel_rfl) (fun _ _ _ _ _ h => h) ((Ex.assign rfl).s) ?_
            refine Any.done (by kernel_rfl) ?_
            exact Run.sub (by exact subB_spec ⟨rfl, rfl, rfl, rfl, rfl, rfl, rfl, rfl, trivial⟩) (hj260 _ _ ⟨y300.2, y300.1.Refs, y300.1.Floor, g304, A301, c301, z300, hf, rfl, hm289, hy248_0, hz248, f301, (St.up (St.up (St.up (St.up hst305 1 rfl) 3 rfl) 3 rfl) 3 rfl)⟩)
          · skip
            refine ⟨_, rfl, rfl, One.of_ops rfl ?_⟩
            refine Ops.allocF [.slice none 0 0, vi 0] hst296 zr38 rfl rfl (fun g306 w306 hst306 => Ops.stop ?_)
            have hS0 := (⟨_, _, hm289, (St.up (St.up (St.up hst306 3 rfl) 3 rfl) 2 rfl)⟩ : (fun w => ∃ ζ Y, Le z245 ζ ∧ Ht w0 (frz ζ :: (blk g258 [.slice A249 a7.Add.length c249, .slice A250 a7.Drop.length c250, vu8 a7.Floor, vb a7.Odd, vs a7.Any.Name, vi a7.Any.Kind, vi a7.Any.From, vi a7.Any.To] 32) :: (blk g5 [.slice A246 l246.length c246, vi x247] 38) :: Y) w) _)
            refine ⟨⟨.inr (fun _ => hS0), trivial⟩, ?_⟩
            obtain ⟨y307, hy307, hf⟩ := bnd hf
            refine Any.one 3 (by kernel_rfl) rfl rfl (One.of_ops rfl ?_)
            refine Ops.call rfl rfl Try.func15 (by kernel_rfl) (by kernel_rfl) rfl (go_edits_Do.walk (p0 := (⟨l246, x247⟩ : editsSet)) (p1 := y296) (hst := hst306) (f1 := f246) (f3 := f297) (f4 := f298) (hf := hy307)) ?_
            rintro _ w307 ⟨z307, A308, c308, rfl, hz307, f308, hst307⟩
            refine ⟨_, rfl, Ops.stop ?_⟩
            replace f6 := f6.mono hz307; replace f257 := f257.mono hz307; replace f249 := f249.mono hz307; replace f250 := f250.mono hz307; replace f246 := f246.mono hz307; replace f297 := f297.mono hz307; replace f298 := f298.mono hz307
            replace hy248_0 := hy248_0.trans hz307
            replace hz248 := hz248.trans hz307
            replace hm289 := hm289.trans hz307
            have hS0 := (⟨_, _, hm289, (St.up (St.up (St.up hst307 3 rfl) 3 rfl) 2 rfl)⟩ : (fun w => ∃ ζ Y, Le z245 ζ ∧ Ht w0 (frz ζ :: (blk g258 [.slice A249 a7.Add.length c249, .slice A250 a7.Drop.length c250, vu8 a7.Floor, vb a7.Odd, vs a7.Any.Name, vi a7.Any.Kind, vi a7.Any.From, vi a7.Any.To] 32) :: (blk g5 [.slice A246 l246.length c246, vi x247] 38) :: Y) w) _)
            refine ⟨⟨.inr (fun _ => hS0), trivial⟩, ?_⟩
            refine Any.takeE 4 rfl rfl rfl rfl (by kernel_rfl) (fun _ _ _ _ _ h => h) ((Ex.move rfl).s) ?_
            refine Any.takeE 5 rfl rfl rfl rfl (by kernel_rfl) (fun _ _ _ _ _ h => h) ((Ex.extract rfl rfl).s) ?_
            refine Any.takeE 6 rfl rfl rfl rfl (by kernel_rfl) (fun _ _ _ _ _ h => h) ((Ex.extract rfl rfl).s) ?_
            refine Any.one 8 (by kernel_rfl) rfl rfl (One.of_ops rfl ?_)
            refine Ops.store 1 [.slice A308 y307.1.Refs.length c308, vi y307.1.Floor] hst307 rfl rfl rfl rfl sz38 rfl (by simp [Value.oneCell']) (by simp) (fun w311 hst311 => Ops.stop ?_)
            have hS0 := (⟨_, _, hm289, (St.up (St.up (St.up hst311 3 rfl) 3 rfl) 2 rfl)⟩ : (fun w => ∃ ζ Y, Le z245 ζ ∧ Ht w0 (frz ζ :: (blk g258 [.slice A249 a7.Add.length c249, .slice A250 a7.Drop.length c250, vu8 a7.Floor, vb a7.Odd, vs a7.Any.Name, vi a7.Any.Kind, vi a7.Any.From, vi a7.Any.To] 32) :: (blk g5 [.slice A246 l246.length c246, vi x247] 38) :: Y) w) _)
            refine ⟨⟨.inr (fun _ => hS0), trivial⟩, ?_⟩
            refine Any.takeE 9 rfl rfl rfl rfl (by kernel_rfl) (fun _ _ _ _ _ h => h) ((Ex.assign rfl).s) ?_
            refine Any.done (by kernel_rfl) ?_
            exact Run.sub (by exact subB_spec ⟨rfl, rfl, rfl, rfl, rfl, rfl, rfl, rfl, trivial⟩) (hj260 _ _ ⟨y307.2, y307.1.Refs, y307.1.Floor, g306, A308, c308, z307, hf, rfl, hm289, hy248_0, hz248, f308, (St.up (St.up (St.up (St.up hst311 1 rfl) 3 rfl) 3 rfl) 3 rfl)⟩)
        · skip
          refine ⟨_, rfl, rfl, One.of_ops rfl ?_⟩
          refine Ops.allocF [.slice none 0 0, vi 0] hst295 zr38 rfl rfl (fun g312 w312 hst312 => Ops.stop ?_)
          have hS0 := (⟨_, _, (Le.refl _), (St.up (St.up (St.up hst312 3 rfl) 3 rfl) 2 rfl)⟩ : (fun w => ∃ ζ Y, Le z245 ζ ∧ Ht w0 (frz ζ :: (blk g258 [.slice A249 a7.Add.length c249, .slice A250 a7.Drop.length c250, vu8 a7.Floor, vb a7.Odd, vs a7.Any.Name, vi a7.Any.Kind, vi a7.Any.From, vi a7.Any.To] 32) :: (blk g5 [.slice A246 l246.length c246, vi x247] 38) :: Y) w) _)
          refine ⟨⟨.inr (fun _ => hS0), trivial⟩, ?_⟩
          obtain ⟨y313, hy313, hf⟩ := bnd hf
          refine Any.one 2 (by kernel_rfl) rfl rfl (One.of_ops rfl ?_)
          refine Ops.call rfl rfl Try.func12 (by kernel_rfl) (by kernel_rfl) rfl (go_law10_Step_Edit.walk (p0 := a7) (hst := hst312) (f1 := f249) (f2 := f250) (hf := hy313)) ?_
          rintro _ w313 ⟨z313, A314, c314, A315, c315, rfl, hz313, f314, f315, hst313⟩
          refine ⟨_, rfl, Ops.stop ?_⟩
          replace f6 := f6.mono hz313; replace f257 := f257.mono hz313; replace f249 := f249.mono hz313; replace f250 := f250.mono hz313; replace f246 := f246.mono hz313
          replace hy248_0 := hy248_0.trans hz313
          replace hz248 := hz248.trans hz313
          replace hm289 := hm289.trans hz313
          have hS0 := (⟨_, _, hm289, (St.up (St.up (St.up hst313 3 rfl) 3 rfl) 2 rfl)⟩ : (fun w => ∃ ζ Y, Le z245 ζ ∧ Ht w0 (frz ζ :: (blk g258 [.slice A249 a7.Add.length c249, .slice A250 a7.Drop.length c250, vu8 a7.Floor, vb a7.Odd, vs a7.Any.Name, vi a7.Any.Kind, vi a7.Any.From, vi a7.Any.To] 32) :: (blk g5 [.slice A246 l246.length c246, vi x247] 38) :: Y) w) _)
          refine ⟨⟨.inr (fun _ => hS0), trivial⟩, ?_⟩
          obtain ⟨y317, hy317, hf⟩ := bnd hf
          refine Any.one 3 (by kernel_rfl) rfl rfl (One.of_ops rfl ?_)
          refine Ops.call rfl rfl Try.func15 (by kernel_rfl) (by kernel_rfl) rfl (go_edits_Do.walk (p0 := (⟨l246, x247⟩ : editsSet)) (p1 := y313) (hst := hst313) (f1 := f246) (f3 := f314) (f4 := f315) (hf := hy317)) ?_
          rintro _ w317 ⟨z317, A318, c318, rfl, hz317, f318, hst317⟩
          refine ⟨_, rfl, Ops.stop ?_⟩
          replace f6 := f6.mono hz317; replace f257 := f257.mono hz317; replace f249 := f249.mono hz317; replace f250 := f250.mono hz317; replace f246 := f246.mono hz317; replace f314 := f314.mono hz317; replace f315 := f315.mono hz317
          replace hy248_0 := hy248_0.trans hz317
          replace hz248 := hz248.trans hz317
          replace hm289 := hm289.trans hz317
          have hS0 := (⟨_, _, hm289, (St.up (St.up (St.up hst317 3 rfl) 3 rfl) 2 rfl)⟩ : (fun w => ∃ ζ Y, Le z245 ζ ∧ Ht w0 (frz ζ :: (blk g258 [.slice A249 a7.Add.length c249, .slice A250 a7.Drop.length c250, vu8 a7.Floor, vb a7.Odd, vs a7.Any.Name, vi a7.Any.Kind, vi a7.Any.From, vi a7.Any.To] 32) :: (blk g5 [.slice A246 l246.length c246, vi x247] 38) :: Y) w) _)
          refine ⟨⟨.inr (fun _ => hS0), trivial⟩, ?_⟩
          refine Any.takeE 4 rfl rfl rfl rfl (by kernel_rfl) (fun _ _ _ _ _ h => h) ((Ex.move rfl).s) ?_
          refine Any.takeE 5 rfl rfl rfl rfl (by kernel_rfl) (fun _ _ _ _ _ h => h) ((Ex.extract rfl rfl).s) ?_
          refine Any.takeE 6 rfl rfl rfl rfl (by kernel_rfl) (fun _ _ _ _ _ h => h) ((Ex.extract rfl rfl).s) ?_
          refine Any.one 8 (by kernel_rfl) rfl rfl (One.of_ops rfl ?_)
          refine Ops.store 1 [.slice A318 y317.1.Refs.length c318, vi y317.1.Floor] hst317 rfl rfl rfl rfl sz38 rfl (by simp [Value.oneCell']) (by simp) (fun w321 hst321 => Ops.stop ?_)
          have hS0 := (⟨_, _, hm289, (St.up (St.up (St.up hst321 3 rfl) 3 rfl) 2 rfl)⟩ : (fun w => ∃ ζ Y, Le z245 ζ ∧ Ht w0 (frz ζ :: (blk g258 [.slice A249 a7.Add.length c249, .slice A250 a7.Drop.length c250, vu8 a7.Floor, vb a7.Odd, vs a7.Any.Name, vi a7.Any.Kind, vi a7.Any.From, vi a7.Any.To] 32) :: (blk g5 [.slice A246 l246.length c246, vi x247] 38) :: Y) w) _)
          refine ⟨⟨.inr (fun _ => hS0), trivial⟩, ?_⟩
          refine Any.takeE 9 rfl rfl rfl rfl (by kernel_rfl) (fun _ _ _ _ _ h => h) ((Ex.assign rfl).s) ?_
          refine Any.done (by kernel_rfl) ?_
          exact Run.sub (by exact subB_spec ⟨rfl, rfl, rfl, rfl, rfl, rfl, rfl, rfl, trivial⟩) (hj260 _ _ ⟨y317.2, y317.1.Refs, y317.1.Floor, g312, A318, c318, z317, hf, rfl, hm289, hy248_0, hz248, f318, (St.up (St.up (St.up (St.up hst321 1 rfl) 3 rfl) 3 rfl) 3 rfl)⟩)
      · rintro e' w322 ⟨x292, l293, x294, g291, A293, c293, z290, hf, rfl, hz322, hy322_0, hy322_1, f293, hst322⟩
        replace f6 := f6.mono hz322; replace f249 := f249.mono hz322; replace f250 := f250.mono hz322; replace f246 := f246.mono hz322
        unfold go_law10_EditsOnce.j1 at hf
        refine Run.seq ?_
        refine Run.region ?_
        refine Ops.ex (Ex.move rfl) rfl rfl rfl ?_
        refine Ops.ex (Ex.eqlI rfl rfl) rfl rfl rfl ?_
        refine Ops.ex (Ex.move rfl) rfl rfl rfl ?_
        refine Ops.case 40 rfl (fun hc => ?_) (fun hc => ?_)
        · replace hf := ifT (dec_T hc) hf
          refine Ops.on rfl ?_
          refine Ops.ex (Ex.fieldAddr rfl Try.underlying32 rfl sz4) rfl rfl rfl ?_
          refine Ops.on rfl ?_
          refine Ops.load rfl Try.underlying4 rfl (hst322.cell (i := 1) rfl rfl) rfl ?_
          refine Ops.on rfl ?_
          refine Ops.ex (Ex.not rfl) rfl rfl rfl ?_
          refine Ops.ex (Ex.pickT rfl rfl) rfl rfl rfl ?_
          refine Ops.nil ?_
          refine Run.cond rfl (fun hc => ?_) (fun hc => ?_)
          · replace hf := ifFb (bn_T hc) hf
            refine Run.region ?_
            refine Ops.loadAgg _ rfl Try.underlying38 rfl sz38 rfl (hst322.cells (i := 3) rfl 0 2) rfl ?_
            refine Ops.store 2 [.slice A293 l293.length c293, vi x294] hst322 rfl rfl rfl rfl sz38 rfl (by simp [Value.oneCell']) (by simp) (fun w323 hst323 => ?_)
            refine Ops.nil ?_
            refine Run.endBlk ?_
            refine Run.region ?_
            refine Ops.ex (Ex.add rfl rfl) rfl rfl rfl ?_
            refine Ops.ex (Ex.move rfl) rfl rfl rfl ?_
            refine Ops.nil ?_
            refine Run.re 27 rfl (congrArg vi (wr_succ' hl7 hc7)) ?_
            exact Run.sub (by exact subB_spec ⟨rfl, rfl, rfl, rfl, rfl, trivial⟩) (Run.stop ⟨l6.length - (i7 + 1), by omega, i7 + 1, l293, x294, A293, c293, z290, rfl, by omega, (hnxb7 _).symm.trans hf, rfl, hy322_1, hy322_0, f293, (St.forget (St.forget hst323 3) 1)⟩)
          · replace hf := ifTb (bn_F hc) hf
            refine Run.skip ?_
            refine Run.endBlk ?_
            refine Run.region ?_
            refine Ops.ex (Ex.add rfl rfl) rfl rfl rfl ?_
            refine Ops.ex (Ex.move rfl) rfl rfl rfl ?_
            refine Ops.nil ?_
            refine Run.re 27 rfl (congrArg vi (wr_succ' hl7 hc7)) ?_
            exact Run.sub (by exact subB_spec ⟨rfl, rfl, rfl, rfl, rfl, trivial⟩) (Run.stop ⟨l6.length - (i7 + 1), by omega, i7 + 1, l246, x247, A246, c246, z290, rfl, by omega, (hnxb7 _).symm.trans hf, rfl, hy322_1, hy322_0, f246, (St.forget (St.forget hst322 3) 1)⟩)
        · replace hf := ifF (dec_F hc) hf
          refine Ops.off rfl rfl ?_
          refine Ops.off rfl rfl ?_
          refine Ops.off rfl rfl ?_
          refine Ops.ex (Ex.pickF rfl rfl) rfl rfl rfl ?_
          refine Ops.nil ?_
          refine Run.condF rfl rfl ?_
          refine Run.skip ?_
          refine Run.endBlk ?_
          refine Run.region ?_
          refine Ops.ex (Ex.add rfl rfl) rfl rfl rfl ?_
          refine Ops.ex (Ex.move rfl) rfl rfl rfl ?_
          refine Ops.nil ?_
          refine Run.re 27 rfl (congrArg vi (wr_succ' hl7 hc7)) ?_
          exact Run.sub (by exact subB_spec ⟨rfl, rfl, rfl, rfl, rfl, trivial⟩) (Run.stop ⟨l6.length - (i7 + 1), by omega, i7 + 1, l246, x247, A246, c246, z290, rfl, by omega, (hnxb7 _).symm.trans hf, rfl, hy322_1, hy322_0, f246, (St.forget (St.forget hst322 3) 1)⟩)
    · replace hf := forL_out hf (nlt_of_dec hc)
      try dsimp only at hf
      refine Run.exit _ rfl ?_
      refine Run.seq ?_
      refine Run.region ?_
      refine Ops.ex (Ex.move rfl) rfl rfl rfl ?_
      refine Ops.ex (Ex.cu8 rfl Try.underlying5 Try.underlying3) rfl rfl rfl ?_
      refine Ops.ex (Ex.move rfl) rfl rfl rfl ?_
      refine Ops.ex (Ex.cu8 rfl Try.underlying5 Try.underlying3) rfl rfl rfl ?_
      refine Ops.ex (Ex.build [vs [122, 122], vi 2, vi (p1.toNat : Int), vi (p1.toNat : Int)] rfl Try.underlying24 zr24 (pl24 Try.underlying24) (by kernel_rfl)) rfl rfl rfl ?_
      refine Ops.allocF [vs [], vi 0, vi 0, vi 0] hst248 zr24 rfl rfl (fun g324 w324 hst324 => ?_)
      refine Ops.store 1 [vs [122, 122], vi 2, vi (p1.toNat : Int), vi (p1.toNat : Int)] hst324 rfl rfl rfl rfl sz24 rfl (by simp [Value.oneCell']) (by simp) (fun w325 hst325 => ?_)
      refine Ops.nil ?_
      refine Run.seq ?_
      refine Run.region ?_
      refine Ops.loadAgg _ rfl Try.underlying38 rfl sz38 rfl (hst325.cells (i := 2) rfl 0 2) rfl ?_
      refine Ops.loadAgg _ rfl Try.underlying24 rfl sz24 rfl (hst325.cells (i := 1) rfl 0 4) rfl ?_
      refine Ops.sliceF [vs [122, 122], vi 2, vi (p1.toNat : Int), vi (p1.toNat : Int)] hst325 rfl Try.underlying26 sz24 zr24 rfl rfl (by kernel_rfl) rfl (by simp [Value.oneCell']) rfl (fun A326 w326 hst326 => ?_)
      have f326 : Cs tapiRef z245 [vs [122, 122], vi 2, vi (p1.toNat : Int), vi (p1.toNat : Int)] [(⟨[122, 122], 2, (p1.toNat : Int), (p1.toNat : Int)⟩ : apiRef)] := (Cs.cons (c := [vs [122, 122], vi 2, vi (p1.toNat : Int), vi (p1.toNat : Int)]) rfl (Cs.nil _ _))
      refine Ops.ex (Ex.fieldAddr rfl Try.underlying38 rfl sz3) rfl rfl rfl ?_
      refine Ops.load rfl Try.underlying3 rfl (hst326.cell (i := 3) rfl rfl) rfl ?_
      refine Ops.ex (Ex.build [.slice A326 ([(⟨[122, 122], 2, (p1.toNat : Int), (p1.toNat : Int)⟩ : apiRef)]).length 1, .slice none 0 0, vi x247] rfl Try.underlying29 zr29 (pl29 Try.underlying29) (by kernel_rfl)) rfl rfl rfl ?_
      obtain ⟨z328, hz328, f328, hst328⟩ := St.freeze (τ := tapiRef) (xs := ([(⟨[122, 122], 2, (p1.toNat : Int), (p1.toNat : Int)⟩ : apiRef)])) hst326 f326 rfl
      replace f6 := f6.mono hz328; replace f246 := f246.mono hz328
      replace hy248_0 := hy248_0.trans hz328
      replace hz248 := hz248.trans hz328
      obtain ⟨y327, hy327, hf⟩ := bnd hf
      refine Ops.call rfl rfl Try.func15 (by kernel_rfl) (by kernel_rfl) rfl (go_edits_Do.walk (p0 := (⟨l246, x247⟩ : editsSet)) (p1 := (⟨[(⟨[122, 122], 2, (p1.toNat : Int), (p1.toNat : Int)⟩ : apiRef)], [], x247⟩ : editsEdit)) (hst := hst328) (f1 := f246) (f3 := f328) (f4 := Sl.nil _ _) (hf := hy327)) ?_
      rintro _ w327 ⟨z327, A329, c329, rfl, hz327, f329, hst327⟩
      refine ⟨_, rfl, ?_⟩
      replace f6 := f6.mono hz327; replace f246 := f246.mono hz327; replace f328 := f328.mono hz327
      replace hy248_0 := hy248_0.trans hz327
      replace hz248 := hz248.trans hz327
      refine Ops.ex (Ex.move rfl) rfl rfl rfl ?_
      refine Ops.ex (Ex.extract rfl rfl) rfl rfl rfl ?_
      refine Ops.ex (Ex.extract rfl rfl) rfl rfl rfl ?_
      refine Ops.allocF [.slice none 0 0, vi 0] hst327 zr38 rfl rfl (fun g332 w332 hst332 => ?_)
      refine Ops.store 1 [.slice A329 y327.1.Refs.length c329, vi y327.1.Floor] hst332 rfl rfl rfl rfl sz38 rfl (by simp [Value.oneCell']) (by simp) (fun w333 hst333 => ?_)
      refine Ops.ex (Ex.assign rfl) rfl rfl rfl ?_
      refine Ops.nil ?_
      refine Run.seq ?_
      refine Run.region ?_
      refine Ops.loadAgg _ rfl Try.underlying38 rfl sz38 rfl (hst333.cells (i := 1) rfl 0 2) rfl ?_
      refine Ops.loadAgg _ rfl Try.underlying24 rfl sz24 rfl (hst333.cells (i := 2) rfl 0 4) rfl ?_
      refine Ops.sliceF [vs [122, 122], vi 2, vi (p1.toNat : Int), vi (p1.toNat : Int)] hst333 rfl Try.underlying26 sz24 zr24 rfl rfl (by kernel_rfl) rfl (by simp [Value.oneCell']) rfl (fun A334 w334 hst334 => ?_)
      have f334 : Cs tapiRef z327 [vs [122, 122], vi 2, vi (p1.toNat : Int), vi (p1.toNat : Int)] [(⟨[122, 122], 2, (p1.toNat : Int), (p1.toNat : Int)⟩ : apiRef)] := (Cs.cons (c := [vs [122, 122], vi 2, vi (p1.toNat : Int), vi (p1.toNat : Int)]) rfl (Cs.nil _ _))
      refine Ops.ex (Ex.fieldAddr rfl Try.underlying38 rfl sz3) rfl rfl rfl ?_
      refine Ops.load rfl Try.underlying3 rfl (hst334.cell (i := 2) rfl rfl) rfl ?_
      refine Ops.ex (Ex.build [.slice A334 ([(⟨[122, 122], 2, (p1.toNat : Int), (p1.toNat : Int)⟩ : apiRef)]).length 1, .slice none 0 0, vi y327.1.Floor] rfl Try.underlying29 zr29 (pl29 Try.underlying29) (by kernel_rfl)) rfl rfl rfl ?_
      obtain ⟨z336, hz336, f336, hst336⟩ := St.freeze (τ := tapiRef) (xs := ([(⟨[122, 122], 2, (p1.toNat : Int), (p1.toNat : Int)⟩ : apiRef)])) hst334 f334 rfl
      replace f6 := f6.mono hz336; replace f246 := f246.mono hz336; replace f328 := f328.mono hz336; replace f329 := f329.mono hz336
      replace hy248_0 := hy248_0.trans hz336
      replace hz248 := hz248.trans hz336
      obtain ⟨y335, hy335, hf⟩ := bnd hf
      refine Ops.call rfl rfl Try.func15 (by kernel_rfl) (by kernel_rfl) rfl (go_edits_Do.walk (p0 := y327.1) (p1 := (⟨[(⟨[122, 122], 2, (p1.toNat : Int), (p1.toNat : Int)⟩ : apiRef)], [], y327.1.Floor⟩ : editsEdit)) (hst := hst336) (f1 := f329) (f3 := f336) (f4 := Sl.nil _ _) (hf := hy335)) ?_
      rintro _ w335 ⟨z335, A337, c337, rfl, hz335, f337, hst335⟩
      refine ⟨_, rfl, ?_⟩
      replace f6 := f6.mono hz335; replace f246 := f246.mono hz335; replace f328 := f328.mono hz335; replace f329 := f329.mono hz335; replace f336 := f336.mono hz335
      replace hy248_0 := hy248_0.trans hz335
      replace hz248 := hz248.trans hz335
      refine Ops.ex (Ex.move rfl) rfl rfl rfl ?_
      refine Ops.ex (Ex.extract rfl rfl) rfl rfl rfl ?_
      refine Ops.ex (Ex.extract rfl rfl) rfl rfl rfl ?_
      refine Ops.allocF [.slice none 0 0, vi 0] hst335 zr38 rfl rfl (fun g340 w340 hst340 => ?_)
      refine Ops.store 1 [.slice A337 y335.1.Refs.length c337, vi y335.1.Floor] hst340 rfl rfl rfl rfl sz38 rfl (by simp [Value.oneCell']) (by simp) (fun w341 hst341 => ?_)
      refine Ops.ex (Ex.assign rfl) rfl rfl rfl ?_
      refine Ops.nil ?_
      refine Run.seq ?_
      refine Run.region ?_
      refine Ops.loadAgg _ rfl Try.underlying38 rfl sz38 rfl (hst341.cells (i := 2) rfl 0 2) rfl ?_
      refine Ops.sliceF [vs [122, 122]] hst341 rfl Try.underlying27 sz9 zr9 rfl rfl (by kernel_rfl) rfl (by simp [Value.oneCell']) rfl (fun A342 w342 hst342 => ?_)
      have f342 : Cs tS z335 [vs [122, 122]] [[122, 122]] := (Cs.cons (c := [vs [122, 122]]) rfl (Cs.nil _ _))
      refine Ops.ex (Ex.fieldAddr rfl Try.underlying38 rfl sz3) rfl rfl rfl ?_
      refine Ops.load rfl Try.underlying3 rfl (hst342.cell (i := 3) rfl rfl) rfl ?_
      refine Ops.ex (Ex.build [.slice none 0 0, .slice A342 ([[122, 122]]).length 1, vi y327.1.Floor] rfl Try.underlying29 zr29 (pl29 Try.underlying29) (by kernel_rfl)) rfl rfl rfl ?_
      obtain ⟨z344, hz344, f344, hst344⟩ := St.freeze (τ := tS) (xs := ([[122, 122]])) hst342 f342 rfl
      replace f6 := f6.mono hz344; replace f246 := f246.mono hz344; replace f328 := f328.mono hz344; replace f329 := f329.mono hz344; replace f336 := f336.mono hz344; replace f337 := f337.mono hz344
      replace hy248_0 := hy248_0.trans hz344
      replace hz248 := hz248.trans hz344
      obtain ⟨y343, hy343, hf⟩ := bnd hf
      refine Ops.call rfl rfl Try.func15 (by kernel_rfl) (by kernel_rfl) rfl (go_edits_Do.walk (p0 := y327.1) (p1 := (⟨[], [[122, 122]], y327.1.Floor⟩ : editsEdit)) (hst := hst344) (f1 := f329) (f3 := Sl.nil _ _) (f4 := f344) (hf := hy343)) ?_
      rintro _ w343 ⟨z343, A345, c345, rfl, hz343, f345, hst343⟩
      refine ⟨_, rfl, ?_⟩
      replace f6 := f6.mono hz343; replace f246 := f246.mono hz343; replace f328 := f328.mono hz343; replace f329 := f329.mono hz343; replace f336 := f336.mono hz343; replace f337 := f337.mono hz343; replace f344 := f344.mono hz343
      replace hy248_0 := hy248_0.trans hz343
      replace hz248 := hz248.trans hz343
      refine Ops.ex (Ex.move rfl) rfl rfl rfl ?_
      refine Ops.ex (Ex.extract rfl rfl) rfl rfl rfl ?_
      refine Ops.ex (Ex.extract rfl rfl) rfl rfl rfl ?_
      refine Ops.allocF [.slice none 0 0, vi 0] hst343 zr38 rfl rfl (fun g348 w348 hst348 => ?_)
      refine Ops.store 1 [.slice A345 y343.1.Refs.length c345, vi y343.1.Floor] hst348 rfl rfl rfl rfl sz38 rfl (by simp [Value.oneCell']) (by simp) (fun w349 hst349 => ?_)
      refine Ops.ex (Ex.assign rfl) rfl rfl rfl ?_
      refine Ops.nil ?_
      refine Run.seq ?_
      refine Run.region ?_
      refine Ops.loadAgg _ rfl Try.underlying38 rfl sz38 rfl (hst349.cells (i := 1) rfl 0 2) rfl ?_
      refine Ops.sliceF [vs [122, 122]] hst349 rfl Try.underlying27 sz9 zr9 rfl rfl (by kernel_rfl) rfl (by simp [Value.oneCell']) rfl (fun A350 w350 hst350 => ?_)
      have f350 : Cs tS z343 [vs [122, 122]] [[122, 122]] := (Cs.cons (c := [vs [122, 122]]) rfl (Cs.nil _ _))
      refine Ops.ex (Ex.fieldAddr rfl Try.underlying38 rfl sz3) rfl rfl rfl ?_
      refine Ops.load rfl Try.underlying3 rfl (hst350.cell (i := 2) rfl rfl) rfl ?_
      refine Ops.ex (Ex.build [.slice none 0 0, .slice A350 ([[122, 122]]).length 1, vi y343.1.Floor] rfl Try.underlying29 zr29 (pl29 Try.underlying29) (by kernel_rfl)) rfl rfl rfl ?_
      obtain ⟨z352, hz352, f352, hst352⟩ := St.freeze (τ := tS) (xs := ([[122, 122]])) hst350 f350 rfl
      replace f6 := f6.mono hz352; replace f246 := f246.mono hz352; replace f328 := f328.mono hz352; replace f329 := f329.mono hz352; replace f336 := f336.mono hz352; replace f337 := f337.mono hz352; replace f344 := f344.mono hz352; replace f345 := f345.mono hz352
      replace hy248_0 := hy248_0.trans hz352
      replace hz248 := hz248.trans hz352
      obtain ⟨y351, hy351, hf⟩ := bnd hf
      refine Ops.call rfl rfl Try.func15 (by kernel_rfl) (by kernel_rfl) rfl (go_edits_Do.walk (p0 := y343.1) (p1 := (⟨[], [[122, 122]], y343.1.Floor⟩ : editsEdit)) (hst := hst352) (f1 := f345) (f3 := Sl.nil _ _) (f4 := f352) (hf := hy351)) ?_
      rintro _ w351 ⟨z351, A353, c353, rfl, hz351, f353, hst351⟩
      refine ⟨_, rfl, ?_⟩
      replace f6 := f6.mono hz351; replace f246 := f246.mono hz351; replace f328 := f328.mono hz351; replace f329 := f329.mono hz351; replace f336 := f336.mono hz351; replace f337 := f337.mono hz351; replace f344 := f344.mono hz351; replace f345 := f345.mono hz351; replace f352 := f352.mono hz351
      replace hy248_0 := hy248_0.trans hz351
      replace hz248 := hz248.trans hz351
      refine Ops.ex (Ex.move rfl) rfl rfl rfl ?_
      refine Ops.ex (Ex.extract rfl rfl) rfl rfl rfl ?_
      refine Ops.ex (Ex.extract rfl rfl) rfl rfl rfl ?_
      refine Ops.allocF [.slice none 0 0, vi 0] hst351 zr38 rfl rfl (fun g356 w356 hst356 => ?_)
      refine Ops.store 1 [.slice A353 y351.1.Refs.length c353, vi y351.1.Floor] hst356 rfl rfl rfl rfl sz38 rfl (by simp [Value.oneCell']) (by simp) (fun w357 hst357 => ?_)
      refine Ops.ex (Ex.assign rfl) rfl rfl rfl ?_
      refine Ops.nil ?_
      refine Run.seq ?_
      have hm359 := Le.refl z351
      refine Run.drawH [([], fun w => ∃ ζ Y, Le z351 ζ ∧ Ht w0 (frz ζ :: (blk g356 [.slice A353 y351.1.Refs.length c353, vi y351.1.Floor] 38) :: (blk g348 [.slice A345 y343.1.Refs.length c345, vi y343.1.Floor] 38) :: (blk g340 [.slice A337 y335.1.Refs.length c337, vi y335.1.Floor] 38) :: (blk g332 [.slice A329 y327.1.Refs.length c329, vi y327.1.Floor] 38) :: (blk g324 [vs [122, 122], vi 2, vi (p1.toNat : Int), vi (p1.toNat : Int)] 24) :: (blk g5 [.slice A246 l246.length c246, vi x247] 38) :: Y) w)] (by kernel_rfl) hst357 (fun w358 hst358 => ?_)
      have hS0 := (⟨_, _, (Le.refl _), (St.up (St.up (St.up (St.up (St.up (St.up (St.up hst358 6 rfl) 6 rfl) 6 rfl) 6 rfl) 6 rfl) 6 rfl) 6 rfl)⟩ : (fun w => ∃ ζ Y, Le z351 ζ ∧ Ht w0 (frz ζ :: (blk g356 [.slice A353 y351.1.Refs.length c353, vi y351.1.Floor] 38) :: (blk g348 [.slice A345 y343.1.Refs.length c345, vi y343.1.Floor] 38) :: (blk g340 [.slice A337 y335.1.Refs.length c337, vi y335.1.Floor] 38) :: (blk g332 [.slice A329 y327.1.Refs.length c329, vi y327.1.Floor] 38) :: (blk g324 [vs [122, 122], vi 2, vi (p1.toNat : Int), vi (p1.toNat : Int)] 24) :: (blk g5 [.slice A246 l246.length c246, vi x247] 38) :: Y) w) _)
      refine Any.takeE 0 rfl rfl rfl rfl (by kernel_rfl) (fun _ _ _ _ _ h => h) ((Ex.move rfl).s) ?_
      refine Any.takeE 1 rfl rfl rfl rfl (by kernel_rfl) (fun _ _ _ _ _ h => h) ((Ex.eqlI rfl rfl).s) ?_
      refine Any.takeE 2 rfl rfl rfl rfl (by kernel_rfl) (fun _ _ _ _ _ h => h) ((Ex.move rfl).s) ?_
      refine Any.case 92 rfl (fun hc => ?_) (fun hc => ?_)
      · replace hf := ifT (dec_T hc) hf
        refine Any.takeE 3 rfl rfl rfl rfl (by kernel_rfl) (fun _ _ _ _ _ h => h) (ExS.g ((Ex.move rfl).s)) ?_
        refine Any.takeE 4 rfl rfl rfl rfl (by kernel_rfl) (fun _ _ _ _ _ h => h) (ExS.g ((Ex.eqlI rfl rfl).s)) ?_
        refine Any.takeE 5 rfl rfl rfl rfl (by kernel_rfl) (fun _ _ _ _ _ h => h) ((Ex.pickT rfl rfl).s) ?_
        refine Any.takeE 6 rfl rfl rfl rfl (by kernel_rfl) (fun _ _ _ _ _ h => h) ((Ex.move rfl).s) ?_
        refine Any.case 96 rfl (fun hc => ?_) (fun hc => ?_)
        · replace hf := ifT (dec_T hc) hf
          refine Any.takeE 7 rfl rfl rfl rfl (by kernel_rfl) (fun _ _ _ _ _ h => h) (ExS.g ((Ex.move rfl).s)) ?_
          refine Any.takeE 8 rfl rfl rfl rfl (by kernel_rfl) (fun _ _ _ _ _ h => h) (ExS.g ((Ex.eqlI rfl rfl).s)) ?_
          refine Any.takeE 9 rfl rfl rfl rfl (by kernel_rfl) (fun _ _ _ _ _ h => h) ((Ex.pickT rfl rfl).s) ?_
          refine Any.takeE 10 rfl rfl rfl rfl (by kernel_rfl) (fun _ _ _ _ _ h => h) ((Ex.move rfl).s) ?_
          refine Any.case 100 rfl (fun hc => ?_) (fun hc => ?_)
          · replace hf := ifT (dec_T hc) hf
            refine Any.takeE 11 rfl rfl rfl rfl (by kernel_rfl) (fun _ _ _ _ _ h => h) (ExS.g ((Ex.move rfl).s)) ?_
            refine Any.takeE 12 rfl rfl rfl rfl (by kernel_rfl) (fun _ _ _ _ _ h => h) (ExS.g ((Ex.eqlI rfl rfl).s)) ?_
            refine Any.takeE 13 rfl rfl rfl rfl (by kernel_rfl) (fun _ _ _ _ _ h => h) ((Ex.pickT rfl rfl).s) ?_
            refine Any.takeE 14 rfl rfl rfl rfl (by kernel_rfl) (fun _ _ _ _ _ h => h) ((Ex.move rfl).s) ?_
            refine Any.case 104 rfl (fun hc => ?_) (fun hc => ?_)
            · replace hf := ifT (dec_T hc) hf
              refine Any.takeE 15 rfl rfl rfl rfl (by kernel_rfl) (fun _ _ _ _ _ h => h) (ExS.g ((Ex.fieldAddr rfl Try.underlying38 rfl sz26).s)) ?_
              refine Any.take 0 16 rfl rfl rfl rfl rfl (by kernel_rfl) (fun _ _ _ _ _ h => h) (ExS.g (ExS.load rfl Try.underlying26 rfl (fun w hS => by obtain ⟨_, _, _, hs⟩ := hS; exact hs.cell (i := 2) rfl rfl))) hS0 ?_
              refine Any.takeE 17 rfl rfl rfl rfl (by kernel_rfl) (fun _ _ _ _ _ h => h) (ExS.g ((Ex.len' rfl rfl rfl Try.underlying26).s)) ?_
              refine Any.takeE 18 rfl rfl rfl rfl (by kernel_rfl) (fun _ _ _ _ _ h => h) (ExS.g ((Ex.fieldAddr rfl Try.underlying38 rfl sz26).s)) ?_
              refine Any.take 0 19 rfl rfl rfl rfl rfl (by kernel_rfl) (fun _ _ _ _ _ h => h) (ExS.g (ExS.load rfl Try.underlying26 rfl (fun w hS => by obtain ⟨_, _, _, hs⟩ := hS; exact hs.cell (i := 6) rfl rfl))) hS0 ?_
              refine Any.takeE 20 rfl rfl rfl rfl (by kernel_rfl) (fun _ _ _ _ _ h => h) (ExS.g ((Ex.len' rfl rfl rfl Try.underlying26).s)) ?_
              refine Any.takeE 21 rfl rfl rfl rfl (by kernel_rfl) (fun _ _ _ _ _ h => h) (ExS.g ((Ex.eqlI rfl rfl).s)) ?_
              refine Any.takeE 22 rfl rfl rfl rfl (by kernel_rfl) (fun _ _ _ _ _ h => h) ((Ex.pickT rfl rfl).s) ?_
              refine Any.takeE 23 rfl rfl rfl rfl (by kernel_rfl) (fun _ _ _ _ _ h => h) ((Ex.move rfl).s) ?_
              refine Any.case 113 rfl (fun hc => ?_) (fun hc => ?_)
              · replace hf := ifT (dec_T hc) hf
                refine Any.take 0 24 rfl rfl rfl rfl rfl (by kernel_rfl) (fun _ _ _ _ _ h => h) (ExS.g (ExS.loadAgg [.slice A329 y327.1.Refs.length c329, vi y327.1.Floor] rfl Try.underlying38 rfl sz38 rfl (fun w hS => by obtain ⟨_, _, _, hs⟩ := hS; exact hs.cells (i := 4) rfl 0 2))) hS0 ?_
                refine Any.takeE 26 rfl rfl rfl rfl (by kernel_rfl) (fun _ _ _ _ _ h => h) (ExS.g ((Ex.fieldAddr rfl Try.underlying38 rfl sz26).s)) ?_
                refine Any.take 0 27 rfl rfl rfl rfl rfl (by kernel_rfl) (fun _ _ _ _ _ h => h) (ExS.g (ExS.load rfl Try.underlying26 rfl (fun w hS => by obtain ⟨_, _, _, hs⟩ := hS; exact hs.cell (i := 6) rfl rfl))) hS0 ?_
                refine Any.takeE 28 rfl rfl rfl rfl (by kernel_rfl) (fun _ _ _ _ _ h => h) (ExS.g ((Ex.len' rfl rfl rfl Try.underlying26).s)) ?_
                obtain ⟨y360, hy360, hf⟩ := bnd hf
                refine Any.one 25 (by kernel_rfl) rfl rfl (One.g <| One.of_ops rfl ?_)
                refine Ops.call rfl rfl Try.func16 (by kernel_rfl) (by kernel_rfl) rfl (go_edits_Find.walk (p0 := y327.1) (p1 := [122, 122]) (hst := hst358) (f1 := f329) (hf := hy360)) ?_
                rintro _ w360 ⟨z360, rfl, hz360, hst360⟩
                refine ⟨_, rfl, Ops.stop ?_⟩
                replace f6 := f6.mono hz360; replace f246 := f246.mono hz360; replace f328 := f328.mono hz360; replace f329 := f329.mono hz360; replace f336 := f336.mono hz360; replace f337 := f337.mono hz360; replace f344 := f344.mono hz360; replace f345 := f345.mono hz360; replace f352 := f352.mono hz360; replace f353 := f353.mono hz360
                replace hy248_0 := hy248_0.trans hz360
                replace hz248 := hz248.trans hz360
                replace hm359 := hm359.trans hz360
                have hS0 := (⟨_, _, hm359, (St.up (St.up (St.up (St.up (St.up (St.up (St.up hst360 6 rfl) 6 rfl) 6 rfl) 6 rfl) 6 rfl) 6 rfl) 6 rfl)⟩ : (fun w => ∃ ζ Y, Le z351 ζ ∧ Ht w0 (frz ζ :: (blk g356 [.slice A353 y351.1.Refs.length c353, vi y351.1.Floor] 38) :: (blk g348 [.slice A345 y343.1.Refs.length c345, vi y343.1.Floor] 38) :: (blk g340 [.slice A337 y335.1.Refs.length c337, vi y335.1.Floor] 38) :: (blk g332 [.slice A329 y327.1.Refs.length c329, vi y327.1.Floor] 38) :: (blk g324 [vs [122, 122], vi 2, vi (p1.toNat : Int), vi (p1.toNat : Int)] 24) :: (blk g5 [.slice A246 l246.length c246, vi x247] 38) :: Y) w) _)
                refine ⟨⟨.inr (fun _ => hS0), trivial⟩, ?_⟩
                refine Any.takeE 29 rfl rfl rfl rfl (by kernel_rfl) (fun _ _ _ _ _ h => h) (ExS.g ((Ex.eqlI rfl rfl).s)) ?_
                refine Any.takeE 30 rfl rfl rfl rfl (by kernel_rfl) (fun _ _ _ _ _ h => h) ((Ex.pickT rfl rfl).s) ?_
                refine Any.takeE 31 rfl rfl rfl rfl (by kernel_rfl) (fun _ _ _ _ _ h => h) ((Ex.move rfl).s) ?_
                refine Any.case 121 rfl (fun hc => ?_) (fun hc => ?_)
                · replace hf := ifT (dec_T hc) hf
                  refine Any.take 0 32 rfl rfl rfl rfl rfl (by kernel_rfl) (fun _ _ _ _ _ h => h) (ExS.g (ExS.loadAgg [.slice A345 y343.1.Refs.length c345, vi y343.1.Floor] rfl Try.underlying38 rfl sz38 rfl (fun w hS => by obtain ⟨_, _, _, hs⟩ := hS; exact hs.cells (i := 2) rfl 0 2))) hS0 ?_
                  obtain ⟨y362, hy362, hf⟩ := bnd hf
                  refine Any.one 33 (by kernel_rfl) rfl rfl (One.g <| One.of_ops rfl ?_)
                  refine Ops.call rfl rfl Try.func16 (by kernel_rfl) (by kernel_rfl) rfl (go_edits_Find.walk (p0 := y343.1) (p1 := [122, 122]) (hst := hst360) (f1 := f345) (hf := hy362)) ?_
                  rintro _ w362 ⟨z362, rfl, hz362, hst362⟩
                  refine ⟨_, rfl, Ops.stop ?_⟩
                  replace f6 := f6.mono hz362; replace f246 := f246.mono hz362; replace f328 := f328.mono hz362; replace f329 := f329.mono hz362; replace f336 := f336.mono hz362; replace f337 := f337.mono hz362; replace f344 := f344.mono hz362; replace f345 := f345.mono hz362; replace f352 := f352.mono hz362; replace f353 := f353.mono hz362
                  replace hy248_0 := hy248_0.trans hz362
                  replace hz248 := hz248.trans hz362
                  replace hm359 := hm359.trans hz362
                  have hS0 := (⟨_, _, hm359, (St.up (St.up (St.up (St.up (St.up (St.up (St.up hst362 6 rfl) 6 rfl) 6 rfl) 6 rfl) 6 rfl) 6 rfl) 6 rfl)⟩ : (fun w => ∃ ζ Y, Le z351 ζ ∧ Ht w0 (frz ζ :: (blk g356 [.slice A353 y351.1.Refs.length c353, vi y351.1.Floor] 38) :: (blk g348 [.slice A345 y343.1.Refs.length c345, vi y343.1.Floor] 38) :: (blk g340 [.slice A337 y335.1.Refs.length c337, vi y335.1.Floor] 38) :: (blk g332 [.slice A329 y327.1.Refs.length c329, vi y327.1.Floor] 38) :: (blk g324 [vs [122, 122], vi 2, vi (p1.toNat : Int), vi (p1.toNat : Int)] 24) :: (blk g5 [.slice A246 l246.length c246, vi x247] 38) :: Y) w) _)
                  refine ⟨⟨.inr (fun _ => hS0), trivial⟩, ?_⟩
                  refine Any.takeE 34 rfl rfl rfl rfl (by kernel_rfl) (fun _ _ _ _ _ h => h) (ExS.g ((Ex.eqlI rfl rfl).s)) ?_
                  refine Any.takeE 35 rfl rfl rfl rfl (by kernel_rfl) (fun _ _ _ _ _ h => h) ((Ex.pickT rfl rfl).s) ?_
                  refine Any.takeE 36 rfl rfl rfl rfl (by kernel_rfl) (fun _ _ _ _ _ h => h) ((Ex.assign rfl).s) ?_
                  refine Any.done (by kernel_rfl) ?_
                  obtain rfl := Option.some.inj hf
                  exact Run.retV [vb (decide (y362 = (-1)))] rfl ⟨rfl, trivial⟩ ⟨z362, rfl, hy248_0, (St.forget (St.forget (St.forget (St.forget (St.forget (St.forget hst362 6) 5) 4) 3) 2) 1)⟩
                · replace hf := ifF (dec_F hc) hf
                  refine Any.pass 32 rfl rfl rfl rfl (by kernel_rfl) (fun _ _ _ _ _ h => h) ?_
                  refine Any.pass 33 rfl rfl rfl rfl (by kernel_rfl) (fun _ _ _ _ _ h => h) ?_
                  refine Any.pass 34 rfl rfl rfl rfl (by kernel_rfl) (fun _ _ _ _ _ h => h) ?_
                  refine Any.takeE 35 rfl rfl rfl rfl (by kernel_rfl) (fun _ _ _ _ _ h => h) ((Ex.pickF rfl rfl).s) ?_
                  refine Any.takeE 36 rfl rfl rfl rfl (by kernel_rfl) (fun _ _ _ _ _ h => h) ((Ex.assign rfl).s) ?_
                  refine Any.done (by kernel_rfl) ?_
                  obtain rfl := Option.some.inj hf
                  exact Run.retV [vb false] rfl ⟨rfl, trivial⟩ ⟨z360, rfl, hy248_0, (St.forget (St.forget (St.forget (St.forget (St.forget (St.forget hst360 6) 5) 4) 3) 2) 1)⟩
              · replace hf := ifF (dec_F hc) hf
                refine Any.pass 24 rfl rfl rfl rfl (by kernel_rfl) (fun _ _ _ _ _ h => h) ?_
                refine Any.pass 25 rfl rfl rfl rfl (by kernel_rfl) (fun _ _ _ _ _ h => h) ?_
                refine Any.pass 26 rfl rfl rfl rfl (by kernel_rfl) (fun _ _ _ _ _ h => h) ?_
                refine Any.pass 27 rfl rfl rfl rfl (by kernel_rfl) (fun _ _ _ _ _ h => h) ?_
                refine Any.pass 28 rfl rfl rfl rfl (by kernel_rfl) (fun _ _ _ _ _ h => h) ?_
                refine Any.pass 29 rfl rfl rfl rfl (by kernel_rfl) (fun _ _ _ _ _ h => h) ?_
                refine Any.takeE 30 rfl rfl rfl rfl (by kernel_rfl) (fun _ _ _ _ _ h => h) ((Ex.pickF rfl rfl).s) ?_
                refine Any.takeE 31 rfl rfl rfl rfl (by kernel_rfl) (fun _ _ _ _ _ h => h) ((Ex.move rfl).s) ?_
                refine Any.pass 32 rfl rfl rfl rfl (by kernel_rfl) (fun _ _ _ _ _ h => h) ?_
                refine Any.pass 33 rfl rfl rfl rfl (by kernel_rfl) (fun _ _ _ _ _ h => h) ?_
                refine Any.pass 34 rfl rfl rfl rfl (by kernel_rfl) (fun _ _ _ _ _ h => h) ?_
                refine Any.takeE 35 rfl rfl rfl rfl (by kernel_rfl) (fun _ _ _ _ _ h => h) ((Ex.pickF rfl rfl).s) ?_
                refine Any.takeE 36 rfl rfl rfl rfl (by kernel_rfl) (fun _ _ _ _ _ h => h) ((Ex.assign rfl).s) ?_
                refine Any.done (by kernel_rfl) ?_
                obtain rfl := Option.some.inj hf
                exact Run.retV [vb false] rfl ⟨rfl, trivial⟩ ⟨z351, rfl, hy248_0, (St.forget (St.forget (St.forget (St.forget (St.forget (St.forget hst358 6) 5) 4) 3) 2) 1)⟩
            · replace hf := ifF (dec_F hc) hf
              refine Any.pass 15 rfl rfl rfl rfl (by kernel_rfl) (fun _ _ _ _ _ h => h) ?_
              refine Any.pass 16 rfl rfl rfl rfl (by kernel_rfl) (fun _ _ _ _ _ h => h) ?_
              refine Any.pass 17 rfl rfl rfl rfl (by kernel_rfl) (fun _ _ _ _ _ h => h) ?_
              refine Any.pass 18 rfl rfl rfl rfl (by kernel_rfl) (fun _ _ _ _ _ h => h) ?_
              refine Any.pass 19 rfl rfl rfl rfl (by kernel_rfl) (fun _ _ _ _ _ h => h) ?_
              refine Any.pass 20 rfl rfl rfl rfl (by kernel_rfl) (fun _ _ _ _ _ h => h) ?_
              refine Any.pass 21 rfl rfl rfl rfl (by kernel_rfl) (fun _ _ _ _ _ h => h) ?_
              refine Any.takeE 22 rfl rfl rfl rfl (by kernel_rfl) (fun _ _ _ _ _ h => h) ((Ex.pickF rfl rfl).s) ?_
              refine Any.takeE 23 rfl rfl rfl rfl (by kernel_rfl) (fun _ _ _ _ _ h => h) ((Ex.move rfl).s) ?_
              refine Any.pass 24 rfl rfl rfl rfl (by kernel_rfl) (fun _ _ _ _ _ h => h) ?_
              refine Any.pass 25 rfl rfl rfl rfl (by kernel_rfl) (fun _ _ _ _ _ h => h) ?_
              refine Any.pass 26 rfl rfl rfl rfl (by kernel_rfl) (fun _ _ _ _ _ h => h) ?_
              refine Any.pass 27 rfl rfl rfl rfl (by kernel_rfl) (fun _ _ _ _ _ h => h) ?_
              refine Any.pass 28 rfl rfl rfl rfl (by kernel_rfl) (fun _ _ _ _ _ h => h) ?_
              refine Any.pass 29 rfl rfl rfl rfl (by kernel_rfl) (fun _ _ _ _ _ h => h) ?_
              refine Any.takeE 30 rfl rfl rfl rfl (by kernel_rfl) (fun _ _ _ _ _ h => h) ((Ex.pickF rfl rfl).s) ?_
              refine Any.takeE 31 rfl rfl rfl rfl (by kernel_rfl) (fun _ _ _ _ _ h => h) ((Ex.move rfl).s) ?_
              refine Any.pass 32 rfl rfl rfl rfl (by kernel_rfl) (fun _ _ _ _ _ h => h) ?_
              refine Any.pass 33 rfl rfl rfl rfl (by kernel_rfl) (fun _ _ _ _ _ h => h) ?_
              refine Any.pass 34 rfl rfl rfl rfl (by kernel_rfl) (fun _ _ _ _ _ h => h) ?_
              refine Any.takeE 35 rfl rfl rfl rfl (by kernel_rfl) (fun _ _ _ _ _ h => h) ((Ex.pickF rfl rfl).s) ?_
              refine Any.takeE 36 rfl rfl rfl rfl (by kernel_rfl) (fun _ _ _ _ _ h => h) ((Ex.assign rfl).s) ?_
              refine Any.done (by kernel_rfl) ?_
              obtain rfl := Option.some.inj hf
              exact Run.retV [vb false] rfl ⟨rfl, trivial⟩ ⟨z351, rfl, hy248_0, (St.forget (St.forget (St.forget (St.forget (St.forget (St.forget hst358 6) 5) 4) 3) 2) 1)⟩
          · replace hf := ifF (dec_F hc) hf
            refine Any.pass 11 rfl rfl rfl rfl (by kernel_rfl) (fun _ _ _ _ _ h => h) ?_
            refine Any.pass 12 rfl rfl rfl rfl (by kernel_rfl) (fun _ _ _ _ _ h => h) ?_
            refine Any.takeE 13 rfl rfl rfl rfl (by kernel_rfl) (fun _ _ _ _ _ h => h) ((Ex.pickF rfl rfl).s) ?_
            refine Any.takeE 14 rfl rfl rfl rfl (by kernel_rfl) (fun _ _ _ _ _ h => h) ((Ex.move rfl).s) ?_
            refine Any.pass 15 rfl rfl rfl rfl (by kernel_rfl) (fun _ _ _ _ _ h => h) ?_
            refine Any.pass 16 rfl rfl rfl rfl (by kernel_rfl) (fun _ _ _ _ _ h => h) ?_
            refine Any.pass 17 rfl rfl rfl rfl (by kernel_rfl) (fun _ _ _ _ _ h => h) ?_
            refine Any.pass 18 rfl rfl rfl rfl (by kernel_rfl) (fun _ _ _ _ _ h => h) ?_
            refine Any.pass 19 rfl rfl rfl rfl (by kernel_rfl) (fun _ _ _ _ _ h => h) ?_
            refine Any.pass 20 rfl rfl rfl rfl (by kernel_rfl) (fun _ _ _ _ _ h => h) ?_
            refine Any.pass 21 rfl rfl rfl rfl (by kernel_rfl) (fun _ _ _ _ _ h => h) ?_
            refine Any.takeE 22 rfl rfl rfl rfl (by kernel_rfl) (fun _ _ _ _ _ h => h) ((Ex.pickF rfl rfl).s) ?_
            refine Any.takeE 23 rfl rfl rfl rfl (by kernel_rfl) (fun _ _ _ _ _ h => h) ((Ex.move rfl).s) ?_
            refine Any.pass 24 rfl rfl rfl rfl (by kernel_rfl) (fun _ _ _ _ _ h => h) ?_
            refine Any.pass 25 rfl rfl rfl rfl (by kernel_rfl) (fun _ _ _ _ _ h => h) ?_
            refine Any.pass 26 rfl rfl rfl rfl (by kernel_rfl) (fun _ _ _ _ _ h => h) ?_
            refine Any.pass 27 rfl rfl rfl rfl (by kernel_rfl) (fun _ _ _ _ _ h => h) ?_
            refine Any.pass 28 rfl rfl rfl rfl (by kernel_rfl) (fun _ _ _ _ _ h => h) ?_
            refine Any.pass 29 rfl rfl rfl rfl (by kernel_rfl) (fun _ _ _ _ _ h => h) ?_
            refine Any.takeE 30 rfl rfl rfl rfl (by kernel_rfl) (fun _ _ _ _ _ h => h) ((Ex.pickF rfl rfl).s) ?_
            refine Any.takeE 31 rfl rfl rfl rfl (by kernel_rfl) (fun _ _ _ _ _ h => h) ((Ex.move rfl).s) ?_
            refine Any.pass 32 rfl rfl rfl rfl (by kernel_rfl) (fun _ _ _ _ _ h => h) ?_
            refine Any.pass 33 rfl rfl rfl rfl (by kernel_rfl) (fun _ _ _ _ _ h => h) ?_
            refine Any.pass 34 rfl rfl rfl rfl (by kernel_rfl) (fun _ _ _ _ _ h => h) ?_
            refine Any.takeE 35 rfl rfl rfl rfl (by kernel_rfl) (fun _ _ _ _ _ h => h) ((Ex.pickF rfl rfl).s) ?_
            refine Any.takeE 36 rfl rfl rfl rfl (by kernel_rfl) (fun _ _ _ _ _ h => h) ((Ex.assign rfl).s) ?_
            refine Any.done (by kernel_rfl) ?_
            obtain rfl := Option.some.inj hf
            exact Run.retV [vb false] rfl ⟨rfl, trivial⟩ ⟨z351, rfl, hy248_0, (St.forget (St.forget (St.forget (St.forget (St.forget (St.forget hst358 6) 5) 4) 3) 2) 1)⟩
        · replace hf := ifF (dec_F hc) hf
          refine Any.pass 7 rfl rfl rfl rfl (by kernel_rfl) (fun _ _ _ _ _ h => h) ?_
          refine Any.pass 8 rfl rfl rfl rfl (by kernel_rfl) (fun _ _ _ _ _ h => h) ?_
          refine Any.takeE 9 rfl rfl rfl rfl (by kernel_rfl) (fun _ _ _ _ _ h => h) ((Ex.pickF rfl rfl).s) ?_
          refine Any.takeE 10 rfl rfl rfl rfl (by kernel_rfl) (fun _ _ _ _ _ h => h) ((Ex.move rfl).s) ?_
          refine Any.pass 11 rfl rfl rfl rfl (by kernel_rfl) (fun _ _ _ _ _ h => h) ?_
          refine Any.pass 12 rfl rfl rfl rfl (by kernel_rfl) (fun _ _ _ _ _ h => h) ?_
          refine Any.takeE 13 rfl rfl rfl rfl (by kernel_rfl) (fun _ _ _ _ _ h => h) ((Ex.pickF rfl rfl).s) ?_
          refine Any.takeE 14 rfl rfl rfl rfl (by kernel_rfl) (fun _ _ _ _ _ h => h) ((Ex.move rfl).s) ?_
          refine Any.pass 15 rfl rfl rfl rfl (by kernel_rfl) (fun _ _ _ _ _ h => h) ?_
          refine Any.pass 16 rfl rfl rfl rfl (by kernel_rfl) (fun _ _ _ _ _ h => h) ?_
          refine Any.pass 17 rfl rfl rfl rfl (by kernel_rfl) (fun _ _ _ _ _ h => h) ?_
          refine Any.pass 18 rfl rfl rfl rfl (by kernel_rfl) (fun _ _ _ _ _ h => h) ?_
          refine Any.pass 19 rfl rfl rfl rfl (by kernel_rfl) (fun _ _ _ _ _ h => h) ?_
          refine Any.pass 20 rfl rfl rfl rfl (by kernel_rfl) (fun _ _ _ _ _ h => h) ?_
          refine Any.pass 21 rfl rfl rfl rfl (by kernel_rfl) (fun _ _ _ _ _ h => h) ?_
          refine Any.takeE 22 rfl rfl rfl rfl (by kernel_rfl) (fun _ _ _ _ _ h => h) ((Ex.pickF rfl rfl).s) ?_
          refine Any.takeE 23 rfl rfl rfl rfl (by kernel_rfl) (fun _ _ _ _ _ h => h) ((Ex.move rfl).s) ?_
          refine Any.pass 24 rfl rfl rfl rfl (by kernel_rfl) (fun _ _ _ _ _ h => h) ?_
          refine Any.pass 25 rfl rfl rfl rfl (by kernel_rfl) (fun _ _ _ _ _ h => h) ?_
          refine Any.pass 26 rfl rfl rfl rfl (by kernel_rfl) (fun _ _ _ _ _ h => h) ?_
          refine Any.pass 27 rfl rfl rfl rfl (by kernel_rfl) (fun _ _ _ _ _ h => h) ?_
          refine Any.pass 28 rfl rfl rfl rfl (by kernel_rfl) (fun _ _ _ _ _ h => h) ?_
          refine Any.pass 29 rfl rfl rfl rfl (by kernel_rfl) (fun _ _ _ _ _ h => h) ?_
          refine Any.takeE 30 rfl rfl rfl rfl (by kernel_rfl) (fun _ _ _ _ _ h => h) ((Ex.pickF rfl rfl).s) ?_
          refine Any.takeE 31 rfl rfl rfl rfl (by kernel_rfl) (fun _ _ _ _ _ h => h) ((Ex.move rfl).s) ?_
          refine Any.pass 32 rfl rfl rfl rfl (by kernel_rfl) (fun _ _ _ _ _ h => h) ?_
          refine Any.pass 33 rfl rfl rfl rfl (by kernel_rfl) (fun _ _ _ _ _ h => h) ?_
          refine Any.pass 34 rfl rfl rfl rfl (by kernel_rfl) (fun _ _ _ _ _ h => h) ?_
          refine Any.takeE 35 rfl rfl rfl rfl (by kernel_rfl) (fun _ _ _ _ _ h => h) ((Ex.pickF rfl rfl).s) ?_
          refine Any.takeE 36 rfl rfl rfl rfl (by kernel_rfl) (fun _ _ _ _ _ h => h) ((Ex.assign rfl).s) ?_
          refine Any.done (by kernel_rfl) ?_
          obtain rfl := Option.some.inj hf
          exact Run.retV [vb false] rfl ⟨rfl, trivial⟩ ⟨z351, rfl, hy248_0, (St.forget (St.forget (St.forget (St.forget (St.forget (St.forget hst358 6) 5) 4) 3) 2) 1)⟩
      · replace hf := ifF (dec_F hc) hf
        refine Any.pass 3 rfl rfl rfl rfl (by kernel_rfl) (fun _ _ _ _ _ h => h) ?_
        refine Any.pass 4 rfl rfl rfl rfl (by kernel_rfl) (fun _ _ _ _ _ h => h) ?_
        refine Any.takeE 5 rfl rfl rfl rfl (by kernel_rfl) (fun _ _ _ _ _ h => h) ((Ex.pickF rfl rfl).s) ?_
        refine Any.takeE 6 rfl rfl rfl rfl (by kernel_rfl) (fun _ _ _ _ _ h => h) ((Ex.move rfl).s) ?_
        refine Any.pass 7 rfl rfl rfl rfl (by kernel_rfl) (fun _ _ _ _ _ h => h) ?_
        refine Any.pass 8 rfl rfl rfl rfl (by kernel_rfl) (fun _ _ _ _ _ h => h) ?_
        refine Any.takeE 9 rfl rfl rfl rfl (by kernel_rfl) (fun _ _ _ _ _ h => h) ((Ex.pickF rfl rfl).s) ?_
        refine Any.takeE 10 rfl rfl rfl rfl (by kernel_rfl) (fun _ _ _ _ _ h => h) ((Ex.move rfl).s) ?_
        refine Any.pass 11 rfl rfl rfl rfl (by kernel_rfl) (fun _ _ _ _ _ h => h) ?_
        refine Any.pass 12 rfl rfl rfl rfl (by kernel_rfl) (fun _ _ _ _ _ h => h) ?_
        refine Any.takeE 13 rfl rfl rfl rfl (by kernel_rfl) (fun _ _ _ _ _ h => h) ((Ex.pickF rfl rfl).s) ?_
        refine Any.takeE 14 rfl rfl rfl rfl (by kernel_rfl) (fun _ _ _ _ _ h => h) ((Ex.move rfl).s) ?_
        refine Any.pass 15 rfl rfl rfl rfl (by kernel_rfl) (fun _ _ _ _ _ h => h) ?_
        refine Any.pass 16 rfl rfl rfl rfl (by kernel_rfl) (fun _ _ _ _ _ h => h) ?_
        refine Any.pass 17 rfl rfl rfl rfl (by kernel_rfl) (fun _ _ _ _ _ h => h) ?_
        refine Any.pass 18 rfl rfl rfl rfl (by kernel_rfl) (fun _ _ _ _ _ h => h) ?_
        refine Any.pass 19 rfl rfl rfl rfl (by kernel_rfl) (fun _ _ _ _ _ h => h) ?_
        refine Any.pass 20 rfl rfl rfl rfl (by kernel_rfl) (fun _ _ _ _ _ h => h) ?_
        refine Any.pass 21 rfl rfl rfl rfl (by kernel_rfl) (fun _ _ _ _ _ h => h) ?_
        refine Any.takeE 22 rfl rfl rfl rfl (by kernel_rfl) (fun _ _ _ _ _ h => h) ((Ex.pickF rfl rfl).s) ?_
        refine Any.takeE 23 rfl rfl rfl rfl (by kernel_rfl) (fun _ _ _ _ _ h => h) ((Ex.move rfl).s) ?_
        refine Any.pass 24 rfl rfl rfl rfl (by kernel_rfl) (fun _ _ _ _ _ h => h) ?_
        refine Any.pass 25 rfl rfl rfl rfl (by kernel_rfl) (fun _ _ _ _ _ h => h) ?_
        refine Any.pass 26 rfl rfl rfl rfl (by kernel_rfl) (fun _ _ _ _ _ h => h) ?_
        refine Any.pass 27 rfl rfl rfl rfl (by kernel_rfl) (fun _ _ _ _ _ h => h) ?_
        refine Any.pass 28 rfl rfl rfl rfl (by kernel_rfl) (fun _ _ _ _ _ h => h) ?_
        refine Any.pass 29 rfl rfl rfl rfl (by kernel_rfl) (fun _ _ _ _ _ h => h) ?_
        refine Any.takeE 30 rfl rfl rfl rfl (by kernel_rfl) (fun _ _ _ _ _ h => h) ((Ex.pickF rfl rfl).s) ?_
        refine Any.takeE 31 rfl rfl rfl rfl (by kernel_rfl) (fun _ _ _ _ _ h => h) ((Ex.move rfl).s) ?_
        refine Any.pass 32 rfl rfl rfl rfl (by kernel_rfl) (fun _ _ _ _ _ h => h) ?_
        refine Any.pass 33 rfl rfl rfl rfl (by kernel_rfl) (fun _ _ _ _ _ h => h) ?_
        refine Any.pass 34 rfl rfl rfl rfl (by kernel_rfl) (fun _ _ _ _ _ h => h) ?_
        refine Any.takeE 35 rfl rfl rfl rfl (by kernel_rfl) (fun _ _ _ _ _ h => h) ((Ex.pickF rfl rfl).s) ?_
        refine Any.takeE 36 rfl rfl rfl rfl (by kernel_rfl) (fun _ _ _ _ _ h => h) ((Ex.assign rfl).s) ?_
        refine Any.done (by kernel_rfl) ?_
        obtain rfl := Option.some.inj hf
        exact Run.retV [vb false] rfl ⟨rfl, trivial⟩ ⟨z351, rfl, hy248_0, (St.forget (St.forget (St.forget (St.forget (St.forget (St.forget hst358 6) 5) 4) 3) 2) 1)⟩
def go_law10_EditsAll.j1 (l279 : List apiRef) (x280 : Int) (nxb6 : (List apiRef × Int) → Option Bool) (x325 : Int) (l326 : List apiRef) (x327 : Int) : Option Bool :=
  if x325 = 0 then (nxb6 (l326, x327)) else (nxb6 (l279, x280))
def go_law10_EditsAll.b2 (y361 : editsSet × Int) (i367 : Nat) (a367 : apiRef) : Unit → (Unit → Option Bool) → Option Bool :=
  fun _ nxb367 => (atI y361.1.Refs (i367 : Int)).bind fun y408 => if a367 = y408 then (nxb367 ()) else (some false)
def go_law10_EditsAll.b1 (i6 : Nat) (a6 : law10Step) : (List apiRef × Int) → (List apiRef × Int → Option Bool) → Option Bool :=
  fun (l279, x280) nxb6 => (go_law10_Step_Edit a6).bind fun y329 => (go_edits_Do (⟨l279, x280⟩ : editsSet) y329).bind fun y333 => go_law10_EditsAll.j1 l279 x280 nxb6 y333.2 y333.1.Refs y333.1.Floor
def go_law10_EditsAll (p0 : List law10Step) : Option Bool :=
  (go_law10_awake).bind fun y2 => if y2 then ((cutI p0 0 (min (p0.length : Int) 40)).bind fun l5 => forL (go_law10_EditsAll.b1) (fun (l279, x280) => (go_edits_All (⟨l279, x280⟩ : editsSet)).bind fun y357 => (go_edits_Do (⟨[], 0⟩ : editsSet) y357).bind fun y361 => if y361.2 = 0 then (if y361.1.Floor = x280 then (if (y361.1.Refs.length : Int) = (l279.length : Int) then (forL (go_law10_EditsAll.b2 y361) (fun _ => some true) 0 l279 ()) else (some false)) else (some false)) else (some false)) 0 l5 ([], 0)) else (some false)
set_option maxRecDepth 100000 in
set_option maxHeartbeats 4000000 in
theorem go_law10_EditsAll.walk {w0 w : World} {X : List Res} {z0 : Zp} {p0 : List law10Step} {A1 : Option Addr} {c1 : Nat} {r : Bool} (hst : Ht w0 (frz z0 :: X) w) (f1 : Sl tlaw10Step z0 A1 c1 p0) (hf : go_law10_EditsAll p0 = some r) :
    Calls Try.prog 6 #[.slice A1 p0.length c1] w fun e w' => ∃ (z' : Zp), e = .returned (vb r) ∧ Le z0 z' ∧ Ht w0 (frz z' :: X) w' := by
  refine calls_np Try.func6 rfl rfl ?_
  have hle0 := Le.refl z0
  unfold go_law10_EditsAll at hf
  refine Run.seq ?_
  refine Run.region ?_
  refine Ops.ex (Ex.assign rfl) rfl rfl rfl ?_
  refine Ops.nil ?_
  refine Run.seq ?_
  refine Run.seq ?_
  refine Run.region ?_
  obtain ⟨y2, hy2, hf⟩ := bnd hf
  refine Ops.call rfl rfl Try.func11 (by kernel_rfl) (by kernel_rfl) rfl (go_law10_awake.walk (hst := hst) (hf := hy2)) ?_
  rintro _ w2 ⟨z2, rfl, hz2, hst2⟩
  refine ⟨_, rfl, ?_⟩
  replace f1 := f1.mono hz2
  replace hle0 := hle0.trans hz2
  refine Ops.ex (Ex.not rfl) rfl rfl rfl ?_
  refine Ops.nil ?_
  refine Run.cond rfl (fun hc => ?_) (fun hc => ?_)
  · replace hf := ifFb (bn_T hc) hf
    refine Run.seq ?_
    refine Run.region ?_
    refine Ops.ex (Ex.assign rfl) rfl rfl rfl ?_
    refine Ops.nil ?_
    obtain rfl := Option.some.inj hf
    exact Run.retV [vb false] rfl ⟨rfl, trivial⟩ ⟨z2, rfl, hle0, hst2⟩
  · replace hf := ifTb (bn_F hc) hf
    refine Run.skip ?_
    refine Run.seq ?_
    refine Run.region ?_
    refine Ops.allocF [.slice none 0 0, vi 0] hst2 zr38 rfl rfl (fun g4 w4 hst4 => ?_)
    refine Ops.nil ?_
    refine Run.seq ?_
    refine Run.seq ?_
    refine Run.region ?_
    refine Ops.ex (Ex.move rfl) rfl rfl rfl ?_
    refine Ops.ex (Ex.move rfl) rfl rfl rfl ?_
    refine Ops.ex (Ex.len' rfl rfl rfl Try.underlying36) rfl rfl rfl ?_
    refine Ops.ex (Ex.min2 rfl rfl rfl) rfl rfl rfl ?_
    obtain ⟨l5, hy5, hf⟩ := bnd hf
    obtain ⟨A5, c5, hA5, hB5, f5⟩ := SlH.sub f1.toH hy5
    replace f5 := f5.toS
    refine Ops.ex (Ex.subA hA5 hB5 hy5 rfl rfl Try.underlying36 sz32 rfl rfl) rfl rfl rfl ?_
    refine Ops.ex (Ex.len' rfl rfl rfl Try.underlying36) rfl rfl rfl ?_
    refine Ops.ex (Ex.move rfl) rfl rfl rfl ?_
    refine Ops.nil ?_
    refine Run.block ?_
    have hc6 := f5.cap
    have hm7 := Le.refl z2
    refine Run.sub (e' := [(3, .pointer (some ⟨g4, 0, none⟩)), (17, .slice A5 l5.length c5), (18, vi (l5.length : Int)), (19, vi ((0 : Nat) : Int))]) (subB_spec ⟨rfl, rfl, rfl, rfl, trivial⟩) ?_
    refine Run.loop (fun mb6 => (fun e' w' => ∃ (i6 : Nat) (l279 : List apiRef) (x280 : Int) (A279 : Option Addr) (c279 : Nat) (z278 : Zp), mb6 = l5.length - i6 ∧ i6 ≤ l5.length ∧ forL (go_law10_EditsAll.b1) (fun (l279, x280) => (go_edits_All (⟨l279, x280⟩ : editsSet)).bind fun y357 => (go_edits_Do (⟨[], 0⟩ : editsSet) y357).bind fun y361 => if y361.2 = 0 then (if y361.1.Floor = x280 then (if (y361.1.Refs.length : Int) = (l279.length : Int) then (forL (go_law10_EditsAll.b2 y361) (fun _ => some true) 0 l279 ()) else (some false)) else (some false)) else (some false)) i6 (l5.drop i6) (l279, x280) = some r ∧ e' = [(3, .pointer (some ⟨g4, 0, none⟩)), (17, .slice A5 l5.length c5), (18, vi (l5.length : Int)), (19, vi (i6 : Int))] ∧ Le z2 z278 ∧ Le z0 z278 ∧ Sl tapiRef z278 A279 c279 l279 ∧ Ht w0 (frz z278 :: (blk g4 [.slice A279 l279.length c279, vi x280] 38) :: X) w')) l5.length ⟨0, [], 0, none, 0, z2, rfl, Nat.zero_le _, hf, rfl, hm7, hle0, (Sl.nil _ _), hst4⟩ ?_
    rintro _ e' w281 ⟨i6, l279, x280, A279, c279, z278, rfl, hi6, hf, rfl, hz281, hy281_0, f279, hst281⟩
    replace f5 := f5.mono hz281
    refine Run.seq ?_
    refine Run.region ?_
    refine Ops.ex (Ex.lss rfl rfl) rfl rfl rfl ?_
    refine Ops.nil ?_
    refine Run.seq ?_
    refine Run.cond rfl (fun hc => ?_) (fun hc => ?_)
    · have hl6 := lt_of_dec hc
      obtain ⟨a6, nxb6, ha6, hnxb6, hf⟩ := forL_in hf hl6
      unfold go_law10_EditsAll.b1 at hf
      try dsimp only at hf
      refine Run.skip ?_
      refine Run.seq ?_
      refine Run.block ?_
      refine Run.seq ?_
      refine Run.region ?_
      obtain ⟨g290, p290, o290, cs290, hA290, ho290, hr290, f290⟩ := SlH.elem f5.toH (atI_nat ha6)
      obtain ⟨A282, c282, A283, c283, rfl, f282, f283⟩ := hr290
      refine Ops.ex (Ex.ixA hA290 ho290 (atI_nat ha6) rfl rfl rfl Try.underlying36 sz32) rfl rfl rfl ?_
      refine Ops.loadAgg [.slice A282 a6.Add.length c282, .slice A283 a6.Drop.length c283, vu8 a6.Floor, vb a6.Odd, vs a6.Any.Name, vi a6.Any.Kind, vi a6.Any.From, vi a6.Any.To] rfl Try.underlying32 rfl sz32 rfl (cells_of_zc rfl (f290.mono hst281.le)) rfl ?_
      refine Ops.allocF [.slice none 0 0, .slice none 0 0, vu8 0, vb false, vs [], vi 0, vi 0, vi 0] hst281 zr32 rfl rfl (fun g291 w291 hst291 => ?_)
      refine Ops.store 1 [.slice A282 a6.Add.length c282, .slice A283 a6.Drop.length c283, vu8 a6.Floor, vb a6.Odd, vs a6.Any.Name, vi a6.Any.Kind, vi a6.Any.From, vi a6.Any.To] hst291 rfl rfl rfl rfl sz32 rfl (by simp [Value.oneCell']) (by simp) (fun w292 hst292 => ?_)
      refine Ops.nil ?_
      refine Run.seq ?_
      have hm322 := Le.refl z278
      apply Run.jn (fun e' w' => ∃ (x325 : Int) (l326 : List apiRef) (x327 : Int) (g324 : Nat) (A326 : Option Addr) (c326 : Nat) (z323 : Zp), go_law10_EditsAll.j1 l279 x280 nxb6 x325 l326 x327 = some r ∧ e' = [(3, .pointer (some ⟨g4, 0, none⟩)), (6, .pointer (some ⟨g324, 0, none⟩)), (7, vi x325), (17, .slice A5 l5.length c5), (18, vi (l5.length : Int)), (19, vi (i6 : Int))] ∧ Le z278 z323 ∧ Le z0 z323 ∧ Le z2 z323 ∧ Sl tapiRef z323 A326 c326 l326 ∧ Ht w0 (frz z323 :: (blk g4 [.slice A279 l279.length c279, vi x280] 38) :: (blk g324 [.slice A326 l326.length c326, vi x327] 38) :: X) w')
      · intro hj293
        refine Run.drawH [([], fun w => ∃ ζ Y, Le z278 ζ ∧ Ht w0 (frz ζ :: (blk g291 [.slice A282 a6.Add.length c282, .slice A283 a6.Drop.length c283, vu8 a6.Floor, vb a6.Odd, vs a6.Any.Name, vi a6.Any.Kind, vi a6.Any.From, vi a6.Any.To] 32) :: (blk g4 [.slice A279 l279.length c279, vi x280] 38) :: Y) w)] (by kernel_rfl) hst292 (fun w328 hst328 => ?_)
        have hS0 := (⟨_, _, (Le.refl _), (St.up (St.up (St.up hst328 2 rfl) 2 rfl) 2 rfl)⟩ : (fun w => ∃ ζ Y, Le z278 ζ ∧ Ht w0 (frz ζ :: (blk g291 [.slice A282 a6.Add.length c282, .slice A283 a6.Drop.length c283, vu8 a6.Floor, vb a6.Odd, vs a6.Any.Name, vi a6.Any.Kind, vi a6.Any.From, vi a6.Any.To] 32) :: (blk g4 [.slice A279 l279.length c279, vi x280] 38) :: Y) w) _)
        refine Any.take 0 0 rfl rfl rfl rfl rfl (by kernel_rfl) (fun _ _ _ _ _ h => h) (ExS.loadAgg [.slice A279 l279.length c279, vi x280] rfl Try.underlying38 rfl sz38 rfl (fun w hS => by obtain ⟨_, _, _, hs⟩ := hS; exact hs.cells (i := 2) rfl 0 2)) hS0 ?_
        refine Any.take 0 1 rfl rfl rfl rfl rfl (by kernel_rfl) (fun _ _ _ _ _ h => h) (ExS.loadAgg [.slice A282 a6.Add.length c282, .slice A283 a6.Drop.length c283, vu8 a6.Floor, vb a6.Odd, vs a6.Any.Name, vi a6.Any.Kind, vi a6.Any.From, vi a6.Any.To] rfl Try.underlying32 rfl sz32 rfl (fun w hS => by obtain ⟨_, _, _, hs⟩ := hS; exact hs.cells (i := 1) rfl 0 8)) hS0 ?_
        refine Any.all [2, 7] (by kernel_rfl) rfl (fun i hi => ?_)
        simp only [List.mem_cons, List.not_mem_nil, or_false] at hi
        rcases hi with rfl | rfl
        · skip
          obtain ⟨y329, hy329, hf⟩ := bnd hf
          refine ⟨_, rfl, rfl, One.of_ops rfl ?_⟩
          refine Ops.call rfl rfl Try.func12 (by kernel_rfl) (by kernel_rfl) rfl (go_law10_Step_Edit.walk (p0 := a6) (hst := hst328) (f1 := f282) (f2 := f283) (hf := hy329)) ?_
          rintro _ w329 ⟨z329, A330, c330, A331, c331, rfl, hz329, f330, f331, hst329⟩
          refine ⟨_, rfl, Ops.stop ?_⟩
          replace f5 := f5.mono hz329; replace f290 := f290.mono hz329; replace f282 := f282.mono hz329; replace f283 := f283.mono hz329; replace f279 := f279.mono hz329
          replace hy281_0 := hy281_0.trans hz329
          replace hz281 := hz281.trans hz329
          replace hm322 := hm322.trans hz329
          have hS0 := (⟨_, _, hm322, (St.up (St.up (St.up hst329 2 rfl) 2 rfl) 2 rfl)⟩ : (fun w => ∃ ζ Y, Le z278 ζ ∧ Ht w0 (frz ζ :: (blk g291 [.slice A282 a6.Add.length c282, .slice A283 a6.Drop.length c283, vu8 a6.Floor, vb a6.Odd, vs a6.Any.Name, vi a6.Any.Kind, vi a6.Any.From, vi a6.Any.To] 32) :: (blk g4 [.slice A279 l279.length c279, vi x280] 38) :: Y) w) _)
          refine ⟨⟨.inr (fun _ => hS0), trivial⟩, ?_⟩
          refine Any.all [3, 7] (by kernel_rfl) rfl (fun i hi => ?_)
          simp only [List.mem_cons, List.not_mem_nil, or_false] at hi
          rcases hi with rfl | rfl
          · skip
            obtain ⟨y333, hy333, hf⟩ := bnd hf
            refine ⟨_, rfl, rfl, One.of_ops rfl ?_⟩
            refine Ops.call rfl rfl Try.func15 (by kernel_rfl) (by kernel_rfl) rfl (go_edits_Do.walk (p0 := (⟨l279, x280⟩ : editsSet)) (p1 := y329) (hst := hst329) (f1 := f279) (f3 := f330) (f4 := f331) (hf := hy333)) ?_
            rintro _ w333 ⟨z333, A334, c334, rfl, hz333, f334, hst333⟩
            refine ⟨_, rfl, Ops.stop ?_⟩
            replace f5 := f5.mono hz333; replace f290 := f290.mono hz333; replace f282 := f282.mono hz333; replace f283 := f283.mono hz333; replace f279 := f279.mono hz333; replace f330 := f330.mono hz333; replace f331 := f331.mono hz333
            replace hy281_0 := hy281_0.trans hz333
            replace hz281 := hz281.trans hz333
            replace hm322 := hm322.trans hz333
            have hS0 := (⟨_, _, hm322, (St.up (St.up (St.up hst333 2 rfl) 2 rfl) 2 rfl)⟩ : (fun w => ∃ ζ Y, Le z278 ζ ∧ Ht w0 (frz ζ :: (blk g291 [.slice A282 a6.Add.length c282, .slice A283 a6.Drop.length c283, vu8 a6.Floor, vb a6.Odd, vs a6.Any.Name, vi a6.Any.Kind, vi a6.Any.From, vi a6.Any.To] 32) :: (blk g4 [.slice A279 l279.length c279, vi x280] 38) :: Y) w) _)
            refine ⟨⟨.inr (fun _ => hS0), trivial⟩, ?_⟩
            refine Any.takeE 4 rfl rfl rfl rfl (by kernel_rfl) (fun _ _ _ _ _ h => h) ((Ex.move rfl).s) ?_
            refine Any.takeE 5 rfl rfl rfl rfl (by kernel_rfl) (fun _ _ _ _ _ h => h) ((Ex.extract rfl rfl).s) ?_
            refine Any.takeE 6 rfl rfl rfl rfl (by kernel_rfl) (fun _ _ _ _ _ h => h) ((Ex.extract rfl rfl).s) ?_
            refine Any.one 7 (by kernel_rfl) rfl rfl (One.of_ops rfl ?_)
            refine Ops.allocF [.slice none 0 0, vi 0] hst333 zr38 rfl rfl (fun g337 w337 hst337 => Ops.stop ?_)
            have hS0 := (⟨_, _, hm322, (St.up (St.up (St.up hst337 3 rfl) 3 rfl) 2 rfl)⟩ : (fun w => ∃ ζ Y, Le z278 ζ ∧ Ht w0 (frz ζ :: (blk g291 [.slice A282 a6.Add.length c282, .slice A283 a6.Drop.length c283, vu8 a6.Floor, vb a6.Odd, vs a6.Any.Name, vi a6.Any.Kind, vi a6.Any.From, vi a6.Any.To] 32) :: (blk g4 [.slice A279 l279.length c279, vi x280] 38) :: Y) w) _)
            refine ⟨⟨.inr (fun _ => hS0), trivial⟩, ?_⟩
            refine Any.one 8 (by kernel_rfl) rfl rfl (One.of_ops rfl ?_)
            refine Ops.store 1 [.slice A334 y333.1.Refs.length c334, vi y333.1.Floor] hst337 rfl rfl rfl rfl sz38 rfl (by simp [Value.oneCell']) (by simp) (fun w338 hst338 => Ops.stop ?_)
            have hS0 := (⟨_, _, hm322, (St.up (St.up (St.up hst338 3 rfl) 3 rfl) 2 rfl)⟩ : (fun w => ∃ ζ Y, Le z278 ζ ∧ Ht w0 (frz ζ :: (blk g291 [.slice A282 a6.Add.length c282, .slice A283 a6.Drop.length c283, vu8 a6.Floor, vb a6.Odd, vs a6.Any.Name, vi a6.Any.Kind, vi a6.Any.From, vi a6.Any.To] 32) :: (blk g4 [.slice A279 l279.length c279, vi x280] 38) :: Y) w) _)
            refine ⟨⟨.inr (fun _ => hS0), trivial⟩, ?_⟩
            refine Any.takeE 9 rfl rfl rfl rfl (by kernel_rfl) (fun _ _ _ _ _ h => h) ((Ex.assign rfl).s) ?_
            refine Any.done (by kernel_rfl) ?_
            exact Run.sub (by exact subB_spec ⟨rfl, rfl, rfl, rfl, rfl, rfl, trivial⟩) (hj293 _ _ ⟨y333.2, y333.1.Refs, y333.1.Floor, g337, A334, c334, z333, hf, rfl, hm322, hy281_0, hz281, f334, (St.up (St.up (St.up (St.forget hst338 2) 1 rfl) 2 rfl) 2 rfl)⟩)
          · skip
            refine ⟨_, rfl, rfl, One.of_ops rfl ?_⟩
            refine Ops.allocF [.slice none 0 0, vi 0] hst329 zr38 rfl rfl (fun g339 w339 hst339 => Ops.stop ?_)
            have hS0 := (⟨_, _, hm322, (St.up (St.up (St.up hst339 3 rfl) 3 rfl) 2 rfl)⟩ : (fun w => ∃ ζ Y, Le z278 ζ ∧ Ht w0 (frz ζ :: (blk g291 [.slice A282 a6.Add.length c282, .slice A283 a6.Drop.length c283, vu8 a6.Floor, vb a6.Odd, vs a6.Any.Name, vi a6.Any.Kind, vi a6.Any.From, vi a6.Any.To] 32) :: (blk g4 [.slice A279 l279.length c279, vi x280] 38) :: Y) w) _)
            refine ⟨⟨.inr (fun _ => hS0), trivial⟩, ?_⟩
            obtain ⟨y340, hy340, hf⟩ := bnd hf
            refine Any.one 3 (by kernel_rfl) rfl rfl (One.of_ops rfl ?_)
            refine Ops.call rfl rfl Try.func15 (by kernel_rfl) (by kernel_rfl) rfl (go_edits_Do.walk (p0 := (⟨l279, x280⟩ : editsSet)) (p1 := y329) (hst := hst339) (f1 := f279) (f3 := f330) (f4 := f331) (hf := hy340)) ?_
            rintro _ w340 ⟨z340, A341, c341, rfl, hz340, f341, hst340⟩
            refine ⟨_, rfl, Ops.stop ?_⟩
            replace f5 := f5.mono hz340; replace f290 := f290.mono hz340; replace f282 := f282.mono hz340; replace f283 := f283.mono hz340; replace f279 := f279.mono hz340; replace f330 := f330.mono hz340; replace f331 := f331.mono hz340
            replace hy281_0 := hy281_0.trans hz340
            replace hz281 := hz281.trans hz340
            replace hm322 := hm322.trans hz340
            have hS0 := (⟨_, _, hm322, (St.up (St.up (St.up hst340 3 rfl) 3 rfl) 2 rfl)⟩ : (fun w => ∃ ζ Y, Le z278 ζ ∧ Ht w0 (frz ζ :: (blk g291 [.slice A282 a6.Add.length c282, .slice A283 a6.Drop.length c283, vu8 a6.Floor, vb a6.Odd, vs a6.Any.Name, vi a6.Any.Kind, vi a6.Any.From, vi a6.Any.To] 32) :: (blk g4 [.slice A279 l279.length c279, vi x280] 38) :: Y) w) _)
            refine ⟨⟨.inr (fun _ => hS0), trivial⟩, ?_⟩
            refine Any.takeE 4 rfl rfl rfl rfl (by kernel_rfl) (fun _ _ _ _ _ h => h) ((Ex.move rfl).s) ?_
            refine Any.takeE 5 rfl rfl rfl rfl (by kernel_rfl) (fun _ _ _ _ _ h => h) ((Ex.extract rfl rfl).s) ?_
            refine Any.takeE 6 rfl rfl rfl rfl (by kernel_rfl) (fun _ _ _ _ _ h => h) ((Ex.extract rfl rfl).s) ?_
            refine Any.one 8 (by kernel_rfl) rfl rfl (One.of_ops rfl ?_)
            refine Ops.store 1 [.slice A341 y340.1.Refs.length c341, vi y340.1.Floor] hst340 rfl rfl rfl rfl sz38 rfl (by simp [Value.oneCell']) (by simp) (fun w344 hst344 => Ops.stop ?_)
            have hS0 := (⟨_, _, hm322, (St.up (St.up (St.up hst344 3 rfl) 3 rfl) 2 rfl)⟩ : (fun w => ∃ ζ Y, Le z278 ζ ∧ Ht w0 (frz ζ :: (blk g291 [.slice A282 a6.Add.length c282, .slice A283 a6.Drop.length c283, vu8 a6.Floor, vb a6.Odd, vs a6.Any.Name, vi a6.Any.Kind, vi a6.Any.From, vi a6.Any.To] 32) :: (blk g4 [.slice A279 l279.length c279, vi x280] 38) :: Y) w) _)
            refine ⟨⟨.inr (fun _ => hS0), trivial⟩, ?_⟩
            refine Any.takeE 9 rfl rfl rfl rfl (by kernel_rfl) (fun _ _ _ _ _ h => h) ((Ex.assign rfl).s) ?_
            refine Any.done (by kernel_rfl) ?_
            exact Run.sub (by exact subB_spec ⟨rfl, rfl, rfl, rfl, rfl, rfl, trivial⟩) (hj293 _ _ ⟨y340.2, y340.1.Refs, y340.1.Floor, g339, A341, c341, z340, hf, rfl, hm322, hy281_0, hz281, f341, (St.up (St.up (St.up (St.forget hst344 2) 1 rfl) 2 rfl) 2 rfl)⟩)
        · skip
          refine ⟨_, rfl, rfl, One.of_ops rfl ?_⟩
          refine Ops.allocF [.slice none 0 0, vi 0] hst328 zr38 rfl rfl (fun g345 w345 hst345 => Ops.stop ?_)
          have hS0 := (⟨_, _, (Le.refl _), (St.up (St.up (St.up hst345 3 rfl) 3 rfl) 2 rfl)⟩ : (fun w => ∃ ζ Y, Le z278 ζ ∧ Ht w0 (frz ζ :: (blk g291 [.slice A282 a6.Add.length c282, .slice A283 a6.Drop.length c283, vu8 a6.Floor, vb a6.Odd, vs a6.Any.Name, vi a6.Any.Kind, vi a6.Any.From, vi a6.Any.To] 32) :: (blk g4 [.slice A279 l279.length c279, vi x280] 38) :: Y) w) _)
          refine ⟨⟨.inr (fun _ => hS0), trivial⟩, ?_⟩
          obtain ⟨y346, hy346, hf⟩ := bnd hf
          refine Any.one 2 (by kernel_rfl) rfl rfl (One.of_ops rfl ?_)
          refine Ops.call rfl rfl Try.func12 (by kernel_rfl) (by kernel_rfl) rfl (go_law10_Step_Edit.walk (p0 := a6) (hst := hst345) (f1 := f282) (f2 := f283) (hf := hy346)) ?_
          rintro _ w346 ⟨z346, A347, c347, A348, c348, rfl, hz346, f347, f348, hst346⟩
          refine ⟨_, rfl, Ops.stop ?_⟩
          replace f5 := f5.mono hz346; replace f290 := f290.mono hz346; replace f282 := f282.mono hz346; replace f283 := f283.mono hz346; replace f279 := f279.mono hz346
          replace hy281_0 := hy281_0.trans hz346
          replace hz281 := hz281.trans hz346
          replace hm322 := hm322.trans hz346
          have hS0 := (⟨_, _, hm322, (St.up (St.up (St.up hst346 3 rfl) 3 rfl) 2 rfl)⟩ : (fun w => ∃ ζ Y, Le z278 ζ ∧ Ht w0 (frz ζ :: (blk g291 [.slice A282 a6.Add.length c282, .slice A283 a6.Drop.length c283, vu8 a6.Floor, vb a6.Odd, vs a6.Any.Name, vi a6.Any.Kind, vi a6.Any.From, vi a6.Any.To] 32) :: (blk g4 [.slice A279 l279.length c279, vi x280] 38) :: Y) w) _)
          refine ⟨⟨.inr (fun _ => hS0), trivial⟩, ?_⟩
          obtain ⟨y350, hy350, hf⟩ := bnd hf
          refine Any.one 3 (by kernel_rfl) rfl rfl (One.of_ops rfl ?_)
          refine Ops.call rfl rfl Try.func15 (by kernel_rfl) (by kernel_rfl) rfl (go_edits_Do.walk (p0 := (⟨l279, x280⟩ : editsSet)) (p1 := y346) (hst := hst346) (f1 := f279) (f3 := f347) (f4 := f348) (hf := hy350)) ?_
          rintro _ w350 ⟨z350, A351, c351, rfl, hz350, f351, hst350⟩
          refine ⟨_, rfl, Ops.stop ?_⟩
          replace f5 := f5.mono hz350; replace f290 := f290.mono hz350; replace f282 := f282.mono hz350; replace f283 := f283.mono hz350; replace f279 := f279.mono hz350; replace f347 := f347.mono hz350; replace f348 := f348.mono hz350
          replace hy281_0 := hy281_0.trans hz350
          replace hz281 := hz281.trans hz350
          replace hm322 := hm322.trans hz350
          have hS0 := (⟨_, _, hm322, (St.up (St.up (St.up hst350 3 rfl) 3 rfl) 2 rfl)⟩ : (fun w => ∃ ζ Y, Le z278 ζ ∧ Ht w0 (frz ζ :: (blk g291 [.slice A282 a6.Add.length c282, .slice A283 a6.Drop.length c283, vu8 a6.Floor, vb a6.Odd, vs a6.Any.Name, vi a6.Any.Kind, vi a6.Any.From, vi a6.Any.To] 32) :: (blk g4 [.slice A279 l279.length c279, vi x280] 38) :: Y) w) _)
          refine ⟨⟨.inr (fun _ => hS0), trivial⟩, ?_⟩
          refine Any.takeE 4 rfl rfl rfl rfl (by kernel_rfl) (fun _ _ _ _ _ h => h) ((Ex.move rfl).s) ?_
          refine Any.takeE 5 rfl rfl rfl rfl (by kernel_rfl) (fun _ _ _ _ _ h => h) ((Ex.extract rfl rfl).s) ?_
          refine Any.takeE 6 rfl rfl rfl rfl (by kernel_rfl) (fun _ _ _ _ _ h => h) ((Ex.extract rfl rfl).s) ?_
          refine Any.one 8 (by kernel_rfl) rfl rfl (One.of_ops rfl ?_)
          refine Ops.store 1 [.slice A351 y350.1.Refs.length c351, vi y350.1.Floor] hst350 rfl rfl rfl rfl sz38 rfl (by simp [Value.oneCell']) (by simp) (fun w354 hst354 => Ops.stop ?_)
          have hS0 := (⟨_, _, hm322, (St.up (St.up (St.up hst354 3 rfl) 3 rfl) 2 rfl)⟩ : (fun w => ∃ ζ Y, Le z278 ζ ∧ Ht w0 (frz ζ :: (blk g291 [.slice A282 a6.Add.length c282, .slice A283 a6.Drop.length c283, vu8 a6.Floor, vb a6.Odd, vs a6.Any.Name, vi a6.Any.Kind, vi a6.Any.From, vi a6.Any.To] 32) :: (blk g4 [.slice A279 l279.length c279, vi x280] 38) :: Y) w) _)
          refine ⟨⟨.inr (fun _ => hS0), trivial⟩, ?_⟩
          refine Any.takeE 9 rfl rfl rfl rfl (by kernel_rfl) (fun _ _ _ _ _ h => h) ((Ex.assign rfl).s) ?_
          refine Any.done (by kernel_rfl) ?_
          exact Run.sub (by exact subB_spec ⟨rfl, rfl, rfl, rfl, rfl, rfl, trivial⟩) (hj293 _ _ ⟨y350.2, y350.1.Refs, y350.1.Floor, g345, A351, c351, z350, hf, rfl, hm322, hy281_0, hz281, f351, (St.up (St.up (St.up (St.forget hst354 2) 1 rfl) 2 rfl) 2 rfl)⟩)
      · rintro e' w355 ⟨x325, l326, x327, g324, A326, c326, z323, hf, rfl, hz355, hy355_0, hy355_1, f326, hst355⟩
        replace f5 := f5.mono hz355; replace f279 := f279.mono hz355
        unfold go_law10_EditsAll.j1 at hf
        refine Run.seq ?_
        refine Run.region ?_
        refine Ops.ex (Ex.move rfl) rfl rfl rfl ?_
        refine Ops.ex (Ex.eqlI rfl rfl) rfl rfl rfl ?_
        refine Ops.nil ?_
        refine Run.cond rfl (fun hc => ?_) (fun hc => ?_)
        · replace hf := ifT (dec_T hc) hf
          refine Run.region ?_
          refine Ops.loadAgg _ rfl Try.underlying38 rfl sz38 rfl (hst355.cells (i := 2) rfl 0 2) rfl ?_
          refine Ops.store 1 [.slice A326 l326.length c326, vi x327] hst355 rfl rfl rfl rfl sz38 rfl (by simp [Value.oneCell']) (by simp) (fun w356 hst356 => ?_)
          refine Ops.nil ?_
          refine Run.endBlk ?_
          refine Run.region ?_
          refine Ops.ex (Ex.add rfl rfl) rfl rfl rfl ?_
          refine Ops.ex (Ex.move rfl) rfl rfl rfl ?_
          refine Ops.nil ?_
          refine Run.re 19 rfl (congrArg vi (wr_succ' hl6 hc6)) ?_
          exact Run.sub (by exact subB_spec ⟨rfl, rfl, rfl, rfl, trivial⟩) (Run.stop ⟨l5.length - (i6 + 1), by omega, i6 + 1, l326, x327, A326, c326, z323, rfl, by omega, (hnxb6 _).symm.trans hf, rfl, hy355_1, hy355_0, f326, (St.forget hst356 2)⟩)
        · replace hf := ifF (dec_F hc) hf
          refine Run.skip ?_
          refine Run.endBlk ?_
          refine Run.region ?_
          refine Ops.ex (Ex.add rfl rfl) rfl rfl rfl ?_
          refine Ops.ex (Ex.move rfl) rfl rfl rfl ?_
          refine Ops.nil ?_
          refine Run.re 19 rfl (congrArg vi (wr_succ' hl6 hc6)) ?_
          exact Run.sub (by exact subB_spec ⟨rfl, rfl, rfl, rfl, trivial⟩) (Run.stop ⟨l5.length - (i6 + 1), by omega, i6 + 1, l279, x280, A279, c279, z323, rfl, by omega, (hnxb6 _).symm.trans hf, rfl, hy355_1, hy355_0, f279, (St.forget hst355 2)⟩)
    · replace hf := forL_out hf (nlt_of_dec hc)
      try dsimp only at hf
      refine Run.exit _ rfl ?_
      refine Run.seq ?_
      refine Run.region ?_
      refine Ops.ex (Ex.build [.slice none 0 0, vi 0] rfl Try.underlying38 zr38 (pl38 Try.underlying38) (by kernel_rfl)) rfl rfl rfl ?_
      refine Ops.loadAgg _ rfl Try.underlying38 rfl sz38 rfl (hst281.cells (i := 1) rfl 0 2) rfl ?_
      obtain ⟨y357, hy357, hf⟩ := bnd hf
      refine Ops.call rfl rfl Try.func17 (by kernel_rfl) (by kernel_rfl) rfl (go_edits_All.walk (p0 := (⟨l279, x280⟩ : editsSet)) (hst := hst281) (f1 := f279) (hf := hy357)) ?_
      rintro _ w357 ⟨z357, A358, c358, A359, c359, rfl, hz357, f358, f359, hst357⟩
      refine ⟨_, rfl, ?_⟩
      replace f5 := f5.mono hz357; replace f279 := f279.mono hz357
      replace hy281_0 := hy281_0.trans hz357
      replace hz281 := hz281.trans hz357
      obtain ⟨y361, hy361, hf⟩ := bnd hf
      refine Ops.call rfl rfl Try.func15 (by kernel_rfl) (by kernel_rfl) rfl (go_edits_Do.walk (p0 := (⟨[], 0⟩ : editsSet)) (p1 := y357) (hst := hst357) (f1 := Sl.nil _ _) (f3 := f358) (f4 := f359) (hf := hy361)) ?_
      rintro _ w361 ⟨z361, A362, c362, rfl, hz361, f362, hst361⟩
      refine ⟨_, rfl, ?_⟩
      replace f5 := f5.mono hz361; replace f279 := f279.mono hz361; replace f358 := f358.mono hz361; replace f359 := f359.mono hz361
      replace hy281_0 := hy281_0.trans hz361
      replace hz281 := hz281.trans hz361
      refine Ops.ex (Ex.move rfl) rfl rfl rfl ?_
      refine Ops.ex (Ex.extract rfl rfl) rfl rfl rfl ?_
      refine Ops.ex (Ex.extract rfl rfl) rfl rfl rfl ?_
      refine Ops.allocF [.slice none 0 0, vi 0] hst361 zr38 rfl rfl (fun g365 w365 hst365 => ?_)
      refine Ops.store 1 [.slice A362 y361.1.Refs.length c362, vi y361.1.Floor] hst365 rfl rfl rfl rfl sz38 rfl (by simp [Value.oneCell']) (by simp) (fun w366 hst366 => ?_)
      refine Ops.ex (Ex.assign rfl) rfl rfl rfl ?_
      refine Ops.nil ?_
      refine Run.seq ?_
      refine Run.seq ?_
      refine Run.region ?_
      refine Ops.ex (Ex.move rfl) rfl rfl rfl ?_
      refine Ops.ex (Ex.neqI rfl rfl) rfl rfl rfl ?_
      refine Ops.ex (Ex.move rfl) rfl rfl rfl ?_
      refine Ops.case 43 rfl (fun hc => ?_) (fun hc => ?_)
      · replace hf := ifF (neq_T hc) hf
        refine Ops.off rfl rfl ?_
        refine Ops.off rfl rfl ?_
        refine Ops.off rfl rfl ?_
        refine Ops.off rfl rfl ?_
        refine Ops.off rfl rfl ?_
        refine Ops.ex (Ex.pickT rfl rfl) rfl rfl rfl ?_
        refine Ops.ex (Ex.move rfl) rfl rfl rfl ?_
        refine Ops.off rfl rfl ?_
        refine Ops.off rfl rfl ?_
        refine Ops.off rfl rfl ?_
        refine Ops.off rfl rfl ?_
        refine Ops.off rfl rfl ?_
        refine Ops.off rfl rfl ?_
        refine Ops.off rfl rfl ?_
        refine Ops.ex (Ex.pickT rfl rfl) rfl rfl rfl ?_
        refine Ops.nil ?_
        refine Run.condT rfl rfl ?_
        refine Run.seq ?_
        refine Run.region ?_
        refine Ops.ex (Ex.assign rfl) rfl rfl rfl ?_
        refine Ops.nil ?_
        obtain rfl := Option.some.inj hf
        exact Run.retV [vb false] rfl ⟨rfl, trivial⟩ ⟨z361, rfl, hy281_0, (St.forget (St.forget hst366 2) 1)⟩
      · replace hf := ifT (neq_F hc) hf
        refine Ops.on rfl ?_
        refine Ops.ex (Ex.fieldAddr rfl Try.underlying38 rfl sz3) rfl rfl rfl ?_
        refine Ops.on rfl ?_
        refine Ops.load rfl Try.underlying3 rfl (hst366.cell (i := 1) rfl rfl) rfl ?_
        refine Ops.on rfl ?_
        refine Ops.ex (Ex.fieldAddr rfl Try.underlying38 rfl sz3) rfl rfl rfl ?_
        refine Ops.on rfl ?_
        refine Ops.load rfl Try.underlying3 rfl (hst366.cell (i := 2) rfl rfl) rfl ?_
        refine Ops.on rfl ?_
        refine Ops.ex (Ex.neqI rfl rfl) rfl rfl rfl ?_
        refine Ops.ex (Ex.pickF rfl rfl) rfl rfl rfl ?_
        refine Ops.ex (Ex.move rfl) rfl rfl rfl ?_
        refine Ops.case 50 rfl (fun hc => ?_) (fun hc => ?_)
        · replace hf := ifF (neq_T hc) hf
          refine Ops.off rfl rfl ?_
          refine Ops.off rfl rfl ?_
          refine Ops.off rfl rfl ?_
          refine Ops.off rfl rfl ?_
          refine Ops.off rfl rfl ?_
          refine Ops.off rfl rfl ?_
          refine Ops.off rfl rfl ?_
          refine Ops.ex (Ex.pickT rfl rfl) rfl rfl rfl ?_
          refine Ops.nil ?_
          refine Run.condT rfl rfl ?_
          refine Run.seq ?_
          refine Run.region ?_
          refine Ops.ex (Ex.assign rfl) rfl rfl rfl ?_
          refine Ops.nil ?_
          obtain rfl := Option.some.inj hf
          exact Run.retV [vb false] rfl ⟨rfl, trivial⟩ ⟨z361, rfl, hy281_0, (St.forget (St.forget hst366 2) 1)⟩
        · replace hf := ifT (neq_F hc) hf
          refine Ops.on rfl ?_
          refine Ops.ex (Ex.fieldAddr rfl Try.underlying38 rfl sz26) rfl rfl rfl ?_
          refine Ops.on rfl ?_
          refine Ops.load rfl Try.underlying26 rfl (hst366.cell (i := 1) rfl rfl) rfl ?_
          refine Ops.on rfl ?_
          refine Ops.ex (Ex.len' rfl rfl rfl Try.underlying26) rfl rfl rfl ?_
          refine Ops.on rfl ?_
          refine Ops.ex (Ex.fieldAddr rfl Try.underlying38 rfl sz26) rfl rfl rfl ?_
          refine Ops.on rfl ?_
          refine Ops.load rfl Try.underlying26 rfl (hst366.cell (i := 2) rfl rfl) rfl ?_
          refine Ops.on rfl ?_
          refine Ops.ex (Ex.len' rfl rfl rfl Try.underlying26) rfl rfl rfl ?_
          refine Ops.on rfl ?_
          refine Ops.ex (Ex.neqI rfl rfl) rfl rfl rfl ?_
          refine Ops.ex (Ex.pickF rfl rfl) rfl rfl rfl ?_
          refine Ops.nil ?_
          refine Run.cond rfl (fun hc => ?_) (fun hc => ?_)
          · replace hf := ifF (neq_T hc) hf
            refine Run.seq ?_
            refine Run.region ?_
            refine Ops.ex (Ex.assign rfl) rfl rfl rfl ?_
            refine Ops.nil ?_
            obtain rfl := Option.some.inj hf
            exact Run.retV [vb false] rfl ⟨rfl, trivial⟩ ⟨z361, rfl, hy281_0, (St.forget (St.forget hst366 2) 1)⟩
          · replace hf := ifT (neq_F hc) hf
            refine Run.skip ?_
            refine Run.seq ?_
            refine Run.seq ?_
            refine Run.region ?_
            refine Ops.ex (Ex.fieldAddr rfl Try.underlying38 rfl sz26) rfl rfl rfl ?_
            refine Ops.load rfl Try.underlying26 rfl (hst366.cell (i := 2) rfl rfl) rfl ?_
            refine Ops.ex (Ex.len' rfl rfl rfl Try.underlying26) rfl rfl rfl ?_
            refine Ops.ex (Ex.move rfl) rfl rfl rfl ?_
            refine Ops.nil ?_
            refine Run.block ?_
            have hc367 := f279.cap
            have hm368 := Le.refl z361
            refine Run.sub (e' := [(3, .pointer (some ⟨g4, 0, none⟩)), (8, .pointer (some ⟨g365, 0, none⟩)), (61, vi (l279.length : Int)), (62, vi ((0 : Nat) : Int))]) (subB_spec ⟨rfl, rfl, rfl, rfl, trivial⟩) ?_
            refine Run.loop (fun mb367 => (fun e' w' => ∃ (i367 : Nat) (z399 : Zp), mb367 = l279.length - i367 ∧ i367 ≤ l279.length ∧ forL (go_law10_EditsAll.b2 y361) (fun _ => some true) i367 (l279.drop i367) () = some r ∧ e' = [(3, .pointer (some ⟨g4, 0, none⟩)), (8, .pointer (some ⟨g365, 0, none⟩)), (61, vi (l279.length : Int)), (62, vi (i367 : Int))] ∧ Le z361 z399 ∧ Le z0 z399 ∧ Le z2 z399 ∧ Ht w0 (frz z399 :: (blk g365 [.slice A362 y361.1.Refs.length c362, vi y361.1.Floor] 38) :: (blk g4 [.slice A279 l279.length c279, vi x280] 38) :: X) w')) l279.length ⟨0, z361, rfl, Nat.zero_le _, hf, rfl, hm368, hy281_0, hz281, hst366⟩ ?_
            rintro _ e' w400 ⟨i367, z399, rfl, hi367, hf, rfl, hz400, hy400_0, hy400_1, hst400⟩
            replace f362 := f362.mono hz400; replace f279 := f279.mono hz400
            refine Run.seq ?_
            refine Run.region ?_
            refine Ops.ex (Ex.lss rfl rfl) rfl rfl rfl ?_
            refine Ops.nil ?_
            refine Run.seq ?_
            refine Run.cond rfl (fun hc => ?_) (fun hc => ?_)
            · have hl367 := lt_of_dec hc
              obtain ⟨a367, nxb367, ha367, hnxb367, hf⟩ := forL_in hf hl367
              unfold go_law10_EditsAll.b2 at hf
              try dsimp only at hf
              refine Run.skip ?_
              refine Run.seq ?_
              refine Run.block ?_
              refine Run.seq ?_
              refine Run.region ?_
              refine Ops.ex (Ex.move rfl) rfl rfl rfl ?_
              refine Ops.ex (Ex.assign rfl) rfl rfl rfl ?_
              refine Ops.nil ?_
              refine Run.seq ?_
              have hm402 := Le.refl z399
              refine Run.drawH [([], fun w => ∃ ζ Y, Le z399 ζ ∧ Ht w0 (frz ζ :: (blk g365 [.slice A362 y361.1.Refs.length c362, vi y361.1.Floor] 38) :: (blk g4 [.slice A279 l279.length c279, vi x280] 38) :: Y) w)] (by kernel_rfl) hst400 (fun w401 hst401 => ?_)
              have hS0 := (⟨_, _, (Le.refl _), (St.up (St.up (St.up hst401 2 rfl) 2 rfl) 2 rfl)⟩ : (fun w => ∃ ζ Y, Le z399 ζ ∧ Ht w0 (frz ζ :: (blk g365 [.slice A362 y361.1.Refs.length c362, vi y361.1.Floor] 38) :: (blk g4 [.slice A279 l279.length c279, vi x280] 38) :: Y) w) _)
              refine Any.takeE 0 rfl rfl rfl rfl (by kernel_rfl) (fun _ _ _ _ _ h => h) ((Ex.fieldAddr rfl Try.underlying38 rfl sz26).s) ?_
              refine Any.take 0 1 rfl rfl rfl rfl rfl (by kernel_rfl) (fun _ _ _ _ _ h => h) (ExS.load rfl Try.underlying26 rfl (fun w hS => by obtain ⟨_, _, _, hs⟩ := hS; exact hs.cell (i := 2) rfl rfl)) hS0 ?_
              refine Any.takeE 2 rfl rfl rfl rfl (by kernel_rfl) (fun _ _ _ _ _ h => h) ((Ex.move rfl).s) ?_
              obtain ⟨g407, p407, o407, cs407, hA407, ho407, hr407, f407⟩ := SlH.elem f279.toH (atI_nat ha367)
              obtain rfl := hr407
              refine Any.takeE 3 rfl rfl rfl rfl (by kernel_rfl) (fun _ _ _ _ _ h => h) ((Ex.ixA hA407 ho407 (atI_nat ha367) rfl rfl rfl Try.underlying26 sz24).s) ?_
              refine Any.take 0 4 rfl rfl rfl rfl rfl (by kernel_rfl) (fun _ _ _ _ _ h => h) (ExS.loadAgg [vs a367.Name, vi a367.Kind, vi a367.From, vi a367.To] rfl Try.underlying24 rfl sz24 rfl (fun w hS => by obtain ⟨_, _, hz, hs⟩ := hS; exact cells_of_zc rfl (f407.mono (hz.trans hs.le)))) hS0 ?_
              refine Any.takeE 5 rfl rfl rfl rfl (by kernel_rfl) (fun _ _ _ _ _ h => h) ((Ex.fieldAddr rfl Try.underlying38 rfl sz26).s) ?_
              refine Any.take 0 6 rfl rfl rfl rfl rfl (by kernel_rfl) (fun _ _ _ _ _ h => h) (ExS.load rfl Try.underlying26 rfl (fun w hS => by obtain ⟨_, _, _, hs⟩ := hS; exact hs.cell (i := 1) rfl rfl)) hS0 ?_
              refine Any.takeE 7 rfl rfl rfl rfl (by kernel_rfl) (fun _ _ _ _ _ h => h) ((Ex.move rfl).s) ?_
              obtain ⟨y408, hy408, hf⟩ := bnd hf
              obtain ⟨g413, p413, o413, cs413, hA413, ho413, hr413, f413⟩ := SlH.elem f362.toH hy408
              obtain rfl := hr413
              refine Any.takeE 8 rfl rfl rfl rfl (by kernel_rfl) (fun _ _ _ _ _ h => h) ((Ex.ixA hA413 ho413 hy408 rfl rfl rfl Try.underlying26 sz24).s) ?_
              refine Any.take 0 9 rfl rfl rfl rfl rfl (by kernel_rfl) (fun _ _ _ _ _ h => h) (ExS.loadAgg [vs y408.Name, vi y408.Kind, vi y408.From, vi y408.To] rfl Try.underlying24 rfl sz24 rfl (fun w hS => by obtain ⟨_, _, hz, hs⟩ := hS; exact cells_of_zc rfl (f413.mono (hz.trans hs.le)))) hS0 ?_
              refine Any.takeE 10 rfl rfl rfl rfl (by kernel_rfl) (fun _ _ _ _ _ h => h) ((Ex.neqV rfl rfl (eqv24 9998 a367 y408) (by kernel_rfl)).s) ?_
              refine Any.done (by kernel_rfl) ?_
              refine Run.cond rfl (fun hc => ?_) (fun hc => ?_)
              · replace hf := ifF (neq_T hc) hf
                refine Run.seq ?_
                refine Run.region ?_
                refine Ops.ex (Ex.assign rfl) rfl rfl rfl ?_
                refine Ops.nil ?_
                obtain rfl := Option.some.inj hf
                exact Run.retV [vb false] rfl ⟨rfl, trivial⟩ ⟨z399, rfl, hy400_0, (St.forget (St.forget hst401 2) 1)⟩
              · replace hf := ifT (neq_F hc) hf
                refine Run.skip ?_
                refine Run.endBlk ?_
                refine Run.region ?_
                refine Ops.ex (Ex.add rfl rfl) rfl rfl rfl ?_
                refine Ops.ex (Ex.move rfl) rfl rfl rfl ?_
                refine Ops.nil ?_
                refine Run.re 62 rfl (congrArg vi (wr_succ' hl367 hc367)) ?_
                exact Run.sub (by exact subB_spec ⟨rfl, rfl, rfl, rfl, trivial⟩) (Run.stop ⟨l279.length - (i367 + 1), by omega, i367 + 1, z399, rfl, by omega, (hnxb367 _).symm.trans hf, rfl, hz400, hy400_0, hy400_1, hst401⟩)
            · replace hf := forL_out hf (nlt_of_dec hc)
              try dsimp only at hf
              refine Run.exit _ rfl ?_
              refine Run.seq ?_
              refine Run.region ?_
              refine Ops.ex (Ex.assign rfl) rfl rfl rfl ?_
              refine Ops.nil ?_
              obtain rfl := Option.some.inj hf
              exact Run.retV [vb true] rfl ⟨rfl, trivial⟩ ⟨z399, rfl, hy400_0, (St.forget (St.forget hst400 2) 1)⟩
end Go.Proofs.Ytjlhookdigbjhaa.E3
