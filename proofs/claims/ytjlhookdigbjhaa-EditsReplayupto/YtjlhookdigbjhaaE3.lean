/- Edits: laws. -/
import Derived.Test.YtjlhookdigbjhaaE2
namespace Go.Proofs.Ytjlhookdigbjhaa.E3
open Go Go.RowKit Go.Proofs.Ytjlhookdigbjhaa.Sx Go.Proofs.Ytjlhookdigbjhaa.E1 Go.Proofs.Ytjlhookdigbjhaa.E2
set_option linter.unusedVariables false
set_option linter.unusedSimpArgs false
theorem zr5 : (Try.prog.info? 5).map (·.zero) = some (some (.int .u8 0)) := by kernel_rfl
theorem zr32 : (Try.prog.info? 32).map (·.zero) = some (some (.agg #[.slice none 0 0, .slice none 0 0, .int .u8 0, .bool false, .string ⟨#[]⟩, .int .i64 0, .int .i64 0, .int .i64 0])) := by kernel_rfl
theorem pl32 {fs : Array Field} (h : Try.prog.underlying 32 = some (.struct fs)) (w : World) : (fs.mapM fun f => do pure (f.offset, ← sizeOf f.type) : Sem (Array (Nat × Nat))).run Try.prog w = .ok #[(0, 1), (1, 1), (2, 1), (3, 1), (4, 4)] w := by
  rw [Try.underlying32] at h
  cases h
  kernel_rfl
theorem sz32 : (Try.prog.info? 32).map (·.size) = some 8 := by kernel_rfl
set_option maxRecDepth 100000 in
theorem eqv24 (d : Nat) (x y : apiRef) : EqV Try.prog (d + 2) 24 (.agg #[vs x.Name, vi x.Kind, vi x.From, vi x.To]) (.agg #[vs y.Name, vi y.Kind, vi y.From, vi y.To]) (decide (x = y)) := by
  refine EqV.re (EqV.agg Try.underlying24 (by kernel_rfl) ⟨_, _, _, _, by decide, fun w => rfl, fun w => rfl, EqV.str Try.underlying9, ⟨_, _, _, _, by decide, fun w => rfl, fun w => rfl, EqV.int Try.underlying22, ⟨_, _, _, _, by decide, fun w => rfl, fun w => rfl, EqV.int Try.underlying3, ⟨_, _, _, _, by decide, fun w => rfl, fun w => rfl, EqV.int Try.underlying3, rfl, rfl⟩, rfl⟩, rfl⟩, rfl⟩) ?_
  obtain ⟨x0, x1, x2, x3⟩ := x
  obtain ⟨y0, y1, y2, y3⟩ := y
  rw [Bool.eq_iff_iff]
  simp [apiRef.mk.injEq]
def go_law10_may (p0 : apiRef) : Option Bool :=
  if 0 < (p0.Name.length : Int) then (if (p0.Name.length : Int) < 17 then (if 0 ≤ p0.Kind then (if p0.Kind < 3 then (if 0 ≤ p0.From then (if p0.From ≤ p0.To then (if p0.To ≤ 1048576 then (if 0 < p0.Kind then (some true) else (some (decide (p0.From = p0.To)))) else (some false)) else (some false)) else (some false)) else (some false)) else (some false)) else (some false)) else (some false)
set_option maxRecDepth 100000 in
set_option maxHeartbeats 4000000 in
theorem go_law10_may.walk {w0 w : World} {X : List Res} {z0 : Zp} {p0 : apiRef} {r : Bool} (hst : Ht w0 (frz z0 :: X) w) (hf : go_law10_may p0 = some r) :
    Calls Try.prog 14 #[.agg #[vs p0.Name, vi p0.Kind, vi p0.From, vi p0.To]] w fun e w' => ∃ (z' : Zp), e = .returned (vb r) ∧ Le z0 z' ∧ Ht w0 (frz z' :: X) w' := by
  refine calls_np Try.func14 rfl rfl ?_
  have hle0 := Le.refl z0
  unfold go_law10_may at hf
  refine Run.seq ?_
  refine Run.region ?_
  refine Ops.boxF [vs p0.Name, vi p0.Kind, vi p0.From, vi p0.To] hst rfl rfl rfl (fun g5 w5 hst5 => ?_)
  refine Ops.ex (Ex.assign rfl) rfl rfl rfl ?_
  refine Ops.nil ?_
  refine Run.seq ?_
  refine Run.region ?_
  refine Ops.ex (Ex.fieldAddr rfl Try.underlying24 rfl sz9) rfl rfl rfl ?_
  refine Ops.load rfl Try.underlying9 rfl (hst5.cell (i := 1) rfl rfl) rfl ?_
  refine Ops.ex (Ex.lenT rfl rfl rfl Try.underlying9) rfl rfl rfl ?_
  refine Ops.ex (Ex.gtr rfl rfl) rfl rfl rfl ?_
  refine Ops.ex (Ex.move rfl) rfl rfl rfl ?_
  refine Ops.case 7 rfl (fun hc => ?_) (fun hc => ?_)
  · replace hf := ifT (dec_T hc) hf
    refine Ops.on rfl ?_
    refine Ops.ex (Ex.fieldAddr rfl Try.underlying24 rfl sz9) rfl rfl rfl ?_
    refine Ops.on rfl ?_
    refine Ops.load rfl Try.underlying9 rfl (hst5.cell (i := 1) rfl rfl) rfl ?_
    refine Ops.on rfl ?_
    refine Ops.ex (Ex.lenT rfl rfl rfl Try.underlying9) rfl rfl rfl ?_
    refine Ops.on rfl ?_
    refine Ops.ex (Ex.lss rfl rfl) rfl rfl rfl ?_
    refine Ops.ex (Ex.pickT rfl rfl) rfl rfl rfl ?_
    refine Ops.ex (Ex.move rfl) rfl rfl rfl ?_
    refine Ops.case 13 rfl (fun hc => ?_) (fun hc => ?_)
    · replace hf := ifT (dec_T hc) hf
      refine Ops.on rfl ?_
      refine Ops.ex (Ex.fieldAddr rfl Try.underlying24 rfl sz22) rfl rfl rfl ?_
      refine Ops.on rfl ?_
      refine Ops.load rfl Try.underlying22 rfl (hst5.cell (i := 1) rfl rfl) rfl ?_
      refine Ops.on rfl ?_
      refine Ops.ex (Ex.geq rfl rfl) rfl rfl rfl ?_
      refine Ops.ex (Ex.pickT rfl rfl) rfl rfl rfl ?_
      refine Ops.ex (Ex.move rfl) rfl rfl rfl ?_
      refine Ops.case 18 rfl (fun hc => ?_) (fun hc => ?_)
      · replace hf := ifT (dec_T hc) hf
        refine Ops.on rfl ?_
        refine Ops.ex (Ex.fieldAddr rfl Try.underlying24 rfl sz22) rfl rfl rfl ?_
        refine Ops.on rfl ?_
        refine Ops.load rfl Try.underlying22 rfl (hst5.cell (i := 1) rfl rfl) rfl ?_
        refine Ops.on rfl ?_
        refine Ops.ex (Ex.lss rfl rfl) rfl rfl rfl ?_
        refine Ops.ex (Ex.pickT rfl rfl) rfl rfl rfl ?_
        refine Ops.ex (Ex.move rfl) rfl rfl rfl ?_
        refine Ops.case 23 rfl (fun hc => ?_) (fun hc => ?_)
        · replace hf := ifT (dec_T hc) hf
          refine Ops.on rfl ?_
          refine Ops.ex (Ex.fieldAddr rfl Try.underlying24 rfl sz3) rfl rfl rfl ?_
          refine Ops.on rfl ?_
          refine Ops.load rfl Try.underlying3 rfl (hst5.cell (i := 1) rfl rfl) rfl ?_
          refine Ops.on rfl ?_
          refine Ops.ex (Ex.geq rfl rfl) rfl rfl rfl ?_
          refine Ops.ex (Ex.pickT rfl rfl) rfl rfl rfl ?_
          refine Ops.ex (Ex.move rfl) rfl rfl rfl ?_
          refine Ops.case 28 rfl (fun hc => ?_) (fun hc => ?_)
          · replace hf := ifT (dec_T hc) hf
            refine Ops.on rfl ?_
            refine Ops.ex (Ex.fieldAddr rfl Try.underlying24 rfl sz3) rfl rfl rfl ?_
            refine Ops.on rfl ?_
            refine Ops.load rfl Try.underlying3 rfl (hst5.cell (i := 1) rfl rfl) rfl ?_
            refine Ops.on rfl ?_
            refine Ops.ex (Ex.fieldAddr rfl Try.underlying24 rfl sz3) rfl rfl rfl ?_
            refine Ops.on rfl ?_
            refine Ops.load rfl Try.underlying3 rfl (hst5.cell (i := 1) rfl rfl) rfl ?_
            refine Ops.on rfl ?_
            refine Ops.ex (Ex.leq rfl rfl) rfl rfl rfl ?_
            refine Ops.ex (Ex.pickT rfl rfl) rfl rfl rfl ?_
            refine Ops.ex (Ex.move rfl) rfl rfl rfl ?_
            refine Ops.case 35 rfl (fun hc => ?_) (fun hc => ?_)
            · replace hf := ifT (dec_T hc) hf
              refine Ops.on rfl ?_
              refine Ops.ex (Ex.fieldAddr rfl Try.underlying24 rfl sz3) rfl rfl rfl ?_
              refine Ops.on rfl ?_
              refine Ops.load rfl Try.underlying3 rfl (hst5.cell (i := 1) rfl rfl) rfl ?_
              refine Ops.on rfl ?_
              refine Ops.ex (Ex.leq rfl rfl) rfl rfl rfl ?_
              refine Ops.ex (Ex.pickT rfl rfl) rfl rfl rfl ?_
              refine Ops.ex (Ex.move rfl) rfl rfl rfl ?_
              refine Ops.case 40 rfl (fun hc => ?_) (fun hc => ?_)
              · replace hf := ifT (dec_T hc) hf
                refine Ops.on rfl ?_
                refine Ops.ex (Ex.fieldAddr rfl Try.underlying24 rfl sz22) rfl rfl rfl ?_
                refine Ops.on rfl ?_
                refine Ops.load rfl Try.underlying22 rfl (hst5.cell (i := 1) rfl rfl) rfl ?_
                refine Ops.on rfl ?_
                refine Ops.ex (Ex.gtr rfl rfl) rfl rfl rfl ?_
                refine Ops.on rfl ?_
                refine Ops.ex (Ex.move rfl) rfl rfl rfl ?_
                refine Ops.case 44 rfl (fun hc => ?_) (fun hc => ?_)
                · replace hf := ifT (dec_T hc) hf
                  refine Ops.off rfl rfl ?_
                  refine Ops.off rfl rfl ?_
                  refine Ops.off rfl rfl ?_
                  refine Ops.off rfl rfl ?_
                  refine Ops.off rfl rfl ?_
                  refine Ops.on rfl ?_
                  refine Ops.ex (Ex.pickT rfl rfl) rfl rfl rfl ?_
                  refine Ops.ex (Ex.pickT rfl rfl) rfl rfl rfl ?_
                  refine Ops.ex (Ex.assign rfl) rfl rfl rfl ?_
                  refine Ops.nil ?_
                  obtain rfl := Option.some.inj hf
                  exact Run.retV [vb true] rfl ⟨rfl, trivial⟩ ⟨z0, rfl, hle0, (St.forget hst5 1)⟩
                · replace hf := ifF (dec_F hc) hf
                  refine Ops.on rfl ?_
                  refine Ops.ex (Ex.fieldAddr rfl Try.underlying24 rfl sz3) rfl rfl rfl ?_
                  refine Ops.on rfl ?_
                  refine Ops.load rfl Try.underlying3 rfl (hst5.cell (i := 1) rfl rfl) rfl ?_
                  refine Ops.on rfl ?_
                  refine Ops.ex (Ex.fieldAddr rfl Try.underlying24 rfl sz3) rfl rfl rfl ?_
                  refine Ops.on rfl ?_
                  refine Ops.load rfl Try.underlying3 rfl (hst5.cell (i := 1) rfl rfl) rfl ?_
                  refine Ops.on rfl ?_
                  refine Ops.ex (Ex.eqlI rfl rfl) rfl rfl rfl ?_
                  refine Ops.on rfl ?_
                  refine Ops.ex (Ex.pickF rfl rfl) rfl rfl rfl ?_
                  refine Ops.ex (Ex.pickT rfl rfl) rfl rfl rfl ?_
                  refine Ops.ex (Ex.assign rfl) rfl rfl rfl ?_
                  refine Ops.nil ?_
                  obtain rfl := Option.some.inj hf
                  exact Run.retV [vb (decide (p0.From = p0.To))] rfl ⟨rfl, trivial⟩ ⟨z0, rfl, hle0, (St.forget hst5 1)⟩
              · replace hf := ifF (dec_F hc) hf
                refine Ops.off rfl rfl ?_
                refine Ops.off rfl rfl ?_
                refine Ops.off rfl rfl ?_
                refine Ops.off rfl rfl ?_
                refine Ops.offU rfl rfl ?_
                refine Ops.offU rfl rfl ?_
                refine Ops.offU rfl rfl ?_
                refine Ops.offU rfl rfl ?_
                refine Ops.offU rfl rfl ?_
                refine Ops.off rfl rfl ?_
                refine Ops.ex (Ex.pickF rfl rfl) rfl rfl rfl ?_
                refine Ops.ex (Ex.assign rfl) rfl rfl rfl ?_
                refine Ops.nil ?_
                obtain rfl := Option.some.inj hf
                exact Run.retV [vb false] rfl ⟨rfl, trivial⟩ ⟨z0, rfl, hle0, (St.forget hst5 1)⟩
            · replace hf := ifF (dec_F hc) hf
              refine Ops.off rfl rfl ?_
              refine Ops.off rfl rfl ?_
              refine Ops.off rfl rfl ?_
              refine Ops.ex (Ex.pickF rfl rfl) rfl rfl rfl ?_
              refine Ops.ex (Ex.move rfl) rfl rfl rfl ?_
              refine Ops.off rfl rfl ?_
              refine Ops.off rfl rfl ?_
              refine Ops.off rfl rfl ?_
              refine Ops.off rfl rfl ?_
              refine Ops.offU rfl rfl ?_
              refine Ops.offU rfl rfl ?_
              refine Ops.offU rfl rfl ?_
              refine Ops.offU rfl rfl ?_
              refine Ops.offU rfl rfl ?_
              refine Ops.off rfl rfl ?_
              refine Ops.ex (Ex.pickF rfl rfl) rfl rfl rfl ?_
              refine Ops.ex (Ex.assign rfl) rfl rfl rfl ?_
              refine Ops.nil ?_
              obtain rfl := Option.some.inj hf
              exact Run.retV [vb false] rfl ⟨rfl, trivial⟩ ⟨z0, rfl, hle0, (St.forget hst5 1)⟩
          · replace hf := ifF (dec_F hc) hf
            refine Ops.off rfl rfl ?_
            refine Ops.off rfl rfl ?_
            refine Ops.off rfl rfl ?_
            refine Ops.off rfl rfl ?_
            refine Ops.off rfl rfl ?_
            refine Ops.ex (Ex.pickF rfl rfl) rfl rfl rfl ?_
            refine Ops.ex (Ex.move rfl) rfl rfl rfl ?_
            refine Ops.off rfl rfl ?_
            refine Ops.off rfl rfl ?_
            refine Ops.off rfl rfl ?_
            refine Ops.ex (Ex.pickF rfl rfl) rfl rfl rfl ?_
            refine Ops.ex (Ex.move rfl) rfl rfl rfl ?_
            refine Ops.off rfl rfl ?_
            refine Ops.off rfl rfl ?_
            refine Ops.off rfl rfl ?_
            refine Ops.off rfl rfl ?_
            refine Ops.offU rfl rfl ?_
            refine Ops.offU rfl rfl ?_
            refine Ops.offU rfl rfl ?_
            refine Ops.offU rfl rfl ?_
            refine Ops.offU rfl rfl ?_
            refine Ops.off rfl rfl ?_
            refine Ops.ex (Ex.pickF rfl rfl) rfl rfl rfl ?_
            refine Ops.ex (Ex.assign rfl) rfl rfl rfl ?_
            refine Ops.nil ?_
            obtain rfl := Option.some.inj hf
            exact Run.retV [vb false] rfl ⟨rfl, trivial⟩ ⟨z0, rfl, hle0, (St.forget hst5 1)⟩
        · replace hf := ifF (dec_F hc) hf
          refine Ops.off rfl rfl ?_
          refine Ops.off rfl rfl ?_
          refine Ops.off rfl rfl ?_
          refine Ops.ex (Ex.pickF rfl rfl) rfl rfl rfl ?_
          refine Ops.ex (Ex.move rfl) rfl rfl rfl ?_
          refine Ops.off rfl rfl ?_
          refine Ops.off rfl rfl ?_
          refine Ops.off rfl rfl ?_
          refine Ops.off rfl rfl ?_
          refine Ops.off rfl rfl ?_
          refine Ops.ex (Ex.pickF rfl rfl) rfl rfl rfl ?_
          refine Ops.ex (Ex.move rfl) rfl rfl rfl ?_
          refine Ops.off rfl rfl ?_
          refine Ops.off rfl rfl ?_
          refine Ops.off rfl rfl ?_
          refine Ops.ex (Ex.pickF rfl rfl) rfl rfl rfl ?_
          refine Ops.ex (Ex.move rfl) rfl rfl rfl ?_
          refine Ops.off rfl rfl ?_
          refine Ops.off rfl rfl ?_
          refine Ops.off rfl rfl ?_
          refine Ops.off rfl rfl ?_
          refine Ops.offU rfl rfl ?_
          refine Ops.offU rfl rfl ?_
          refine Ops.offU rfl rfl ?_
          refine Ops.offU rfl rfl ?_
          refine Ops.offU rfl rfl ?_
          refine Ops.off rfl rfl ?_
          refine Ops.ex (Ex.pickF rfl rfl) rfl rfl rfl ?_
          refine Ops.ex (Ex.assign rfl) rfl rfl rfl ?_
          refine Ops.nil ?_
          obtain rfl := Option.some.inj hf
          exact Run.retV [vb false] rfl ⟨rfl, trivial⟩ ⟨z0, rfl, hle0, (St.forget hst5 1)⟩
      · replace hf := ifF (dec_F hc) hf
        refine Ops.off rfl rfl ?_
        refine Ops.off rfl rfl ?_
        refine Ops.off rfl rfl ?_
        refine Ops.ex (Ex.pickF rfl rfl) rfl rfl rfl ?_
        refine Ops.ex (Ex.move rfl) rfl rfl rfl ?_
        refine Ops.off rfl rfl ?_
        refine Ops.off rfl rfl ?_
        refine Ops.off rfl rfl ?_
        refine Ops.ex (Ex.pickF rfl rfl) rfl rfl rfl ?_
        refine Ops.ex (Ex.move rfl) rfl rfl rfl ?_
        refine Ops.off rfl rfl ?_
        refine Ops.off rfl rfl ?_
        refine Ops.off rfl rfl ?_
        refine Ops.off rfl rfl ?_
        refine Ops.off rfl rfl ?_
        refine Ops.ex (Ex.pickF rfl rfl) rfl rfl rfl ?_
        refine Ops.ex (Ex.move rfl) rfl rfl rfl ?_
        refine Ops.off rfl rfl ?_
        refine Ops.off rfl rfl ?_
        refine Ops.off rfl rfl ?_
        refine Ops.ex (Ex.pickF rfl rfl) rfl rfl rfl ?_
        refine Ops.ex (Ex.move rfl) rfl rfl rfl ?_
        refine Ops.off rfl rfl ?_
        refine Ops.off rfl rfl ?_
        refine Ops.off rfl rfl ?_
        refine Ops.off rfl rfl ?_
        refine Ops.offU rfl rfl ?_
        refine Ops.offU rfl rfl ?_
        refine Ops.offU rfl rfl ?_
        refine Ops.offU rfl rfl ?_
        refine Ops.offU rfl rfl ?_
        refine Ops.off rfl rfl ?_
        refine Ops.ex (Ex.pickF rfl rfl) rfl rfl rfl ?_
        refine Ops.ex (Ex.assign rfl) rfl rfl rfl ?_
        refine Ops.nil ?_
        obtain rfl := Option.some.inj hf
        exact Run.retV [vb false] rfl ⟨rfl, trivial⟩ ⟨z0, rfl, hle0, (St.forget hst5 1)⟩
    · replace hf := ifF (dec_F hc) hf
      refine Ops.off rfl rfl ?_
      refine Ops.off rfl rfl ?_
      refine Ops.off rfl rfl ?_
      refine Ops.ex (Ex.pickF rfl rfl) rfl rfl rfl ?_
      refine Ops.ex (Ex.move rfl) rfl rfl rfl ?_
      refine Ops.off rfl rfl ?_
      refine Ops.off rfl rfl ?_
      refine Ops.off rfl rfl ?_
      refine Ops.ex (Ex.pickF rfl rfl) rfl rfl rfl ?_
      refine Ops.ex (Ex.move rfl) rfl rfl rfl ?_
      refine Ops.off rfl rfl ?_
      refine Ops.off rfl rfl ?_
      refine Ops.off rfl rfl ?_
      refine Ops.ex (Ex.pickF rfl rfl) rfl rfl rfl ?_
      refine Ops.ex (Ex.move rfl) rfl rfl rfl ?_
      refine Ops.off rfl rfl ?_
      refine Ops.off rfl rfl ?_
      refine Ops.off rfl rfl ?_
      refine Ops.off rfl rfl ?_
      refine Ops.off rfl rfl ?_
      refine Ops.ex (Ex.pickF rfl rfl) rfl rfl rfl ?_
      refine Ops.ex (Ex.move rfl) rfl rfl rfl ?_
      refine Ops.off rfl rfl ?_
      refine Ops.off rfl rfl ?_
      refine Ops.off rfl rfl ?_
      refine Ops.ex (Ex.pickF rfl rfl) rfl rfl rfl ?_
      refine Ops.ex (Ex.move rfl) rfl rfl rfl ?_
      refine Ops.off rfl rfl ?_
      refine Ops.off rfl rfl ?_
      refine Ops.off rfl rfl ?_
      refine Ops.off rfl rfl ?_
      refine Ops.offU rfl rfl ?_
      refine Ops.offU rfl rfl ?_
      refine Ops.offU rfl rfl ?_
      refine Ops.offU rfl rfl ?_
      refine Ops.offU rfl rfl ?_
      refine Ops.off rfl rfl ?_
      refine Ops.ex (Ex.pickF rfl rfl) rfl rfl rfl ?_
      refine Ops.ex (Ex.assign rfl) rfl rfl rfl ?_
      refine Ops.nil ?_
      obtain rfl := Option.some.inj hf
      exact Run.retV [vb false] rfl ⟨rfl, trivial⟩ ⟨z0, rfl, hle0, (St.forget hst5 1)⟩
  · replace hf := ifF (dec_F hc) hf
    refine Ops.off rfl rfl ?_
    refine Ops.off rfl rfl ?_
    refine Ops.off rfl rfl ?_
    refine Ops.off rfl rfl ?_
    refine Ops.ex (Ex.pickF rfl rfl) rfl rfl rfl ?_
    refine Ops.ex (Ex.move rfl) rfl rfl rfl ?_
    refine Ops.off rfl rfl ?_
    refine Ops.off rfl rfl ?_
    refine Ops.off rfl rfl ?_
    refine Ops.ex (Ex.pickF rfl rfl) rfl rfl rfl ?_
    refine Ops.ex (Ex.move rfl) rfl rfl rfl ?_
    refine Ops.off rfl rfl ?_
    refine Ops.off rfl rfl ?_
    refine Ops.off rfl rfl ?_
    refine Ops.ex (Ex.pickF rfl rfl) rfl rfl rfl ?_
    refine Ops.ex (Ex.move rfl) rfl rfl rfl ?_
    refine Ops.off rfl rfl ?_
    refine Ops.off rfl rfl ?_
    refine Ops.off rfl rfl ?_
    refine Ops.ex (Ex.pickF rfl rfl) rfl rfl rfl ?_
    refine Ops.ex (Ex.move rfl) rfl rfl rfl ?_
    refine Ops.off rfl rfl ?_
    refine Ops.off rfl rfl ?_
    refine Ops.off rfl rfl ?_
    refine Ops.off rfl rfl ?_
    refine Ops.off rfl rfl ?_
    refine Ops.ex (Ex.pickF rfl rfl) rfl rfl rfl ?_
    refine Ops.ex (Ex.move rfl) rfl rfl rfl ?_
    refine Ops.off rfl rfl ?_
    refine Ops.off rfl rfl ?_
    refine Ops.off rfl rfl ?_
    refine Ops.ex (Ex.pickF rfl rfl) rfl rfl rfl ?_
    refine Ops.ex (Ex.move rfl) rfl rfl rfl ?_
    refine Ops.off rfl rfl ?_
    refine Ops.off rfl rfl ?_
    refine Ops.off rfl rfl ?_
    refine Ops.off rfl rfl ?_
    refine Ops.offU rfl rfl ?_
    refine Ops.offU rfl rfl ?_
    refine Ops.offU rfl rfl ?_
    refine Ops.offU rfl rfl ?_
    refine Ops.offU rfl rfl ?_
    refine Ops.off rfl rfl ?_
    refine Ops.ex (Ex.pickF rfl rfl) rfl rfl rfl ?_
    refine Ops.ex (Ex.assign rfl) rfl rfl rfl ?_
    refine Ops.nil ?_
    obtain rfl := Option.some.inj hf
    exact Run.retV [vb false] rfl ⟨rfl, trivial⟩ ⟨z0, rfl, hle0, (St.forget hst5 1)⟩
def go_law10_EditsMay (p0 : apiRef) (p1 : UInt8) : Option Bool :=
  (go_law10_awake).bind fun y7 => if y7 then ((go_law10_Step_Edit (⟨[p1], [], 0, false, ⟨[], 0, 0, 0⟩⟩ : law10Step)).bind fun y10 => (atI y10.Add 0).bind fun y15 => (go_edits_May p0).bind fun y25 => (go_law10_may p0).bind fun y27 => if y25 = y27 then ((go_edits_May y15).bind fun y29 => if y29 then ((go_law10_may y15).bind fun y31 => some y31) else (some false)) else (some false)) else (some false)
set_option maxRecDepth 100000 in
set_option maxHeartbeats 4000000 in
theorem go_law10_EditsMay.walk {w0 w : World} {X : List Res} {z0 : Zp} {p0 : apiRef} {p1 : UInt8} {r : Bool} (hst : Ht w0 (frz z0 :: X) w) (hf : go_law10_EditsMay p0 p1 = some r) :
    Calls Try.prog 3 #[.agg #[vs p0.Name, vi p0.Kind, vi p0.From, vi p0.To], vu8 p1] w fun e w' => ∃ (z' : Zp), e = .returned (vb r) ∧ Le z0 z' ∧ Ht w0 (frz z' :: X) w' := by
  refine calls_np Try.func3 rfl rfl ?_
  have hle0 := Le.refl z0
  unfold go_law10_EditsMay at hf
  refine Run.seq ?_
  refine Run.region ?_
  refine Ops.boxF [vs p0.Name, vi p0.Kind, vi p0.From, vi p0.To] hst rfl rfl rfl (fun g6 w6 hst6 => ?_)
  refine Ops.ex (Ex.assign rfl) rfl rfl rfl ?_
  refine Ops.nil ?_
  refine Run.seq ?_
  refine Run.seq ?_
  refine Run.region ?_
  obtain ⟨y7, hy7, hf⟩ := bnd hf
  refine Ops.call rfl rfl Try.func11 (by kernel_rfl) (by kernel_rfl) rfl (go_law10_awake.walk (hst := hst6) (hf := hy7)) ?_
  rintro _ w7 ⟨z7, rfl, hz7, hst7⟩
  refine ⟨_, rfl, ?_⟩
  replace hle0 := hle0.trans hz7
  refine Ops.ex (Ex.not rfl) rfl rfl rfl ?_
  refine Ops.nil ?_
  refine Run.cond rfl (fun hc => ?_) (fun hc => ?_)
  · replace hf := ifFb (bn_T hc) hf
    refine Run.seq ?_
    refine Run.region ?_
    refine Ops.ex (Ex.assign rfl) rfl rfl rfl ?_
    refine Ops.nil ?_
    obtain rfl := Option.some.inj hf
    exact Run.retV [vb false] rfl ⟨rfl, trivial⟩ ⟨z7, rfl, hle0, (St.forget hst7 1)⟩
  · replace hf := ifTb (bn_F hc) hf
    refine Run.skip ?_
    refine Run.seq ?_
    refine Run.region ?_
    refine Ops.ex (Ex.move rfl) rfl rfl rfl ?_
    refine Ops.sliceF [vu8 p1] hst7 rfl Try.underlying30 sz5 zr5 rfl rfl (by kernel_rfl) rfl (by simp [Value.oneCell']) rfl (fun A9 w9 hst9 => ?_)
    have f9 : Cs tU8 z7 [vu8 p1] [p1] := (Cs.cons (c := [vu8 p1]) rfl (Cs.nil _ _))
    refine Ops.ex (Ex.build [.slice A9 [p1].length 1, .slice none 0 0, vu8 0, vb false, vs [], vi 0, vi 0, vi 0] rfl Try.underlying32 zr32 (pl32 Try.underlying32) (by kernel_rfl)) rfl rfl rfl ?_
    obtain ⟨z11, hz11, f11, hst11⟩ := St.freeze (τ := tU8) (xs := [p1]) hst9 f9 rfl
    replace hle0 := hle0.trans hz11
    obtain ⟨y10, hy10, hf⟩ := bnd hf
    refine Ops.call rfl rfl Try.func12 (by kernel_rfl) (by kernel_rfl) rfl (go_law10_Step_Edit.walk (p0 := (⟨[p1], [], 0, false, ⟨[], 0, 0, 0⟩⟩ : law10Step)) (hst := hst11) (f1 := f11) (f2 := Sl.nil _ _) (hf := hy10)) ?_
    rintro _ w10 ⟨z10, A12, c12, A13, c13, rfl, hz10, f12, f13, hst10⟩
    refine ⟨_, rfl, ?_⟩
    replace f11 := f11.mono hz10
    replace hle0 := hle0.trans hz10
    refine Ops.ex (Ex.field rfl Try.underlying29 rfl (fun w => rfl)) rfl rfl rfl ?_
    obtain ⟨y15, hy15, hf⟩ := bnd hf
    obtain ⟨g20, p20, o20, cs20, hA20, ho20, hr20, f20⟩ := SlH.elem f12.toH hy15
    obtain rfl := hr20
    refine Ops.ex (Ex.ixA hA20 ho20 hy15 rfl rfl rfl Try.underlying26 sz24) rfl rfl rfl ?_
    refine Ops.loadAgg [vs y15.Name, vi y15.Kind, vi y15.From, vi y15.To] rfl Try.underlying24 rfl sz24 rfl (cells_of_zc rfl (f20.mono hst10.le)) rfl ?_
    refine Ops.allocF [vs [], vi 0, vi 0, vi 0] hst10 zr24 rfl rfl (fun g21 w21 hst21 => ?_)
    refine Ops.store 1 [vs y15.Name, vi y15.Kind, vi y15.From, vi y15.To] hst21 rfl rfl rfl rfl sz24 rfl (by simp [Value.oneCell']) (by simp) (fun w22 hst22 => ?_)
    refine Ops.nil ?_
    refine Run.seq ?_
    have hm24 := Le.refl z10
    refine Run.drawH [([], fun w => ∃ ζ Y, Le z10 ζ ∧ Ht w0 (frz ζ :: (blk g21 [vs y15.Name, vi y15.Kind, vi y15.From, vi y15.To] 24) :: (blk g6 [vs p0.Name, vi p0.Kind, vi p0.From, vi p0.To] 24) :: Y) w)] (by kernel_rfl) hst22 (fun w23 hst23 => ?_)
    have hS0 := (⟨_, _, (Le.refl _), (St.up (St.up (St.up hst23 2 rfl) 2 rfl) 2 rfl)⟩ : (fun w => ∃ ζ Y, Le z10 ζ ∧ Ht w0 (frz ζ :: (blk g21 [vs y15.Name, vi y15.Kind, vi y15.From, vi y15.To] 24) :: (blk g6 [vs p0.Name, vi p0.Kind, vi p0.From, vi p0.To] 24) :: Y) w) _)
    refine Any.take 0 0 rfl rfl rfl rfl rfl (by kernel_rfl) (fun _ _ _ _ _ h => h) (ExS.loadAgg [vs p0.Name, vi p0.Kind, vi p0.From, vi p0.To] rfl Try.underlying24 rfl sz24 rfl (fun w hS => by obtain ⟨_, _, _, hs⟩ := hS; exact hs.cells (i := 2) rfl 0 4)) hS0 ?_
    refine Any.take 0 2 rfl rfl rfl rfl rfl (by kernel_rfl) (fun _ _ _ _ _ h => h) (ExS.loadAgg [vs p0.Name, vi p0.Kind, vi p0.From, vi p0.To] rfl Try.underlying24 rfl sz24 rfl (fun w hS => by obtain ⟨_, _, _, hs⟩ := hS; exact hs.cells (i := 2) rfl 0 4)) hS0 ?_
    obtain ⟨y25, hy25, hf⟩ := bnd hf
    refine Any.one 1 (by kernel_rfl) rfl rfl (One.of_ops rfl ?_)
    refine Ops.call rfl rfl Try.func13 (by kernel_rfl) (by kernel_rfl) rfl (go_edits_May.walk (p0 := p0) (hst := hst23) (hf := hy25)) ?_
    rintro _ w25 ⟨z25, rfl, hz25, hst25⟩
    refine ⟨_, rfl, Ops.stop ?_⟩
    replace f11 := f11.mono hz25; replace f12 := f12.mono hz25; replace f13 := f13.mono hz25; replace f20 := f20.mono hz25
    replace hle0 := hle0.trans hz25
    replace hm24 := hm24.trans hz25
    have hS0 := (⟨_, _, hm24, (St.up (St.up (St.up hst25 2 rfl) 2 rfl) 2 rfl)⟩ : (fun w => ∃ ζ Y, Le z10 ζ ∧ Ht w0 (frz ζ :: (blk g21 [vs y15.Name, vi y15.Kind, vi y15.From, vi y15.To] 24) :: (blk g6 [vs p0.Name, vi p0.Kind, vi p0.From, vi p0.To] 24) :: Y) w) _)
    refine ⟨⟨.inr (fun _ => hS0), trivial⟩, ?_⟩
    obtain ⟨y27, hy27, hf⟩ := bnd hf
    refine Any.one 3 (by kernel_rfl) rfl rfl (One.of_ops rfl ?_)
    refine Ops.call rfl rfl Try.func14 (by kernel_rfl) (by kernel_rfl) rfl (go_law10_may.walk (p0 := p0) (hst := hst25) (hf := hy27)) ?_
    rintro _ w27 ⟨z27, rfl, hz27, hst27⟩
    refine ⟨_, rfl, Ops.stop ?_⟩
    replace f11 := f11.mono hz27; replace f12 := f12.mono hz27; replace f13 := f13.mono hz27; replace f20 := f20.mono hz27
    replace hle0 := hle0.trans hz27
    replace hm24 := hm24.trans hz27
    have hS0 := (⟨_, _, hm24, (St.up (St.up (St.up hst27 2 rfl) 2 rfl) 2 rfl)⟩ : (fun w => ∃ ζ Y, Le z10 ζ ∧ Ht w0 (frz ζ :: (blk g21 [vs y15.Name, vi y15.Kind, vi y15.From, vi y15.To] 24) :: (blk g6 [vs p0.Name, vi p0.Kind, vi p0.From, vi p0.To] 24) :: Y) w) _)
    refine ⟨⟨.inr (fun _ => hS0), trivial⟩, ?_⟩
    refine Any.takeE 4 rfl rfl rfl rfl (by kernel_rfl) (fun _ _ _ _ _ h => h) ((Ex.eqlBo rfl rfl Try.underlying4).s) ?_
    refine Any.takeE 5 rfl rfl rfl rfl (by kernel_rfl) (fun _ _ _ _ _ h => h) ((Ex.move rfl).s) ?_
    refine Any.case 20 rfl (fun hc => ?_) (fun hc => ?_)
    · replace hf := ifT (dec_T hc) hf
      refine Any.take 0 6 rfl rfl rfl rfl rfl (by kernel_rfl) (fun _ _ _ _ _ h => h) (ExS.g (ExS.loadAgg [vs y15.Name, vi y15.Kind, vi y15.From, vi y15.To] rfl Try.underlying24 rfl sz24 rfl (fun w hS => by obtain ⟨_, _, _, hs⟩ := hS; exact hs.cells (i := 1) rfl 0 4))) hS0 ?_
      obtain ⟨y29, hy29, hf⟩ := bnd hf
      refine Any.one 7 (by kernel_rfl) rfl rfl (One.g <| One.of_ops rfl ?_)
      refine Ops.call rfl rfl Try.func13 (by kernel_rfl) (by kernel_rfl) rfl (go_edits_May.walk (p0 := y15) (hst := hst27) (hf := hy29)) ?_
      rintro _ w29 ⟨z29, rfl, hz29, hst29⟩
      refine ⟨_, rfl, Ops.stop ?_⟩
      replace f11 := f11.mono hz29; replace f12 := f12.mono hz29; replace f13 := f13.mono hz29; replace f20 := f20.mono hz29
      replace hle0 := hle0.trans hz29
      replace hm24 := hm24.trans hz29
      have hS0 := (⟨_, _, hm24, (St.up (St.up (St.up hst29 2 rfl) 2 rfl) 2 rfl)⟩ : (fun w => ∃ ζ Y, Le z10 ζ ∧ Ht w0 (frz ζ :: (blk g21 [vs y15.Name, vi y15.Kind, vi y15.From, vi y15.To] 24) :: (blk g6 [vs p0.Name, vi p0.Kind, vi p0.From, vi p0.To] 24) :: Y) w) _)
      refine ⟨⟨.inr (fun _ => hS0), trivial⟩, ?_⟩
      refine Any.takeE 8 rfl rfl rfl rfl (by kernel_rfl) (fun _ _ _ _ _ h => h) ((Ex.pickT rfl rfl).s) ?_
      refine Any.takeE 9 rfl rfl rfl rfl (by kernel_rfl) (fun _ _ _ _ _ h => h) ((Ex.move rfl).s) ?_
      refine Any.case 24 rfl (fun hc => ?_) (fun hc => ?_)
      · replace hf := ifTb hc hf
        refine Any.take 0 10 rfl rfl rfl rfl rfl (by kernel_rfl) (fun _ _ _ _ _ h => h) (ExS.g (ExS.loadAgg [vs y15.Name, vi y15.Kind, vi y15.From, vi y15.To] rfl Try.underlying24 rfl sz24 rfl (fun w hS => by obtain ⟨_, _, _, hs⟩ := hS; exact hs.cells (i := 1) rfl 0 4))) hS0 ?_
        obtain ⟨y31, hy31, hf⟩ := bnd hf
        refine Any.one 11 (by kernel_rfl) rfl rfl (One.g <| One.of_ops rfl ?_)
        refine Ops.call rfl rfl Try.func14 (by kernel_rfl) (by kernel_rfl) rfl (go_law10_may.walk (p0 := y15) (hst := hst29) (hf := hy31)) ?_
        rintro _ w31 ⟨z31, rfl, hz31, hst31⟩
        refine ⟨_, rfl, Ops.stop ?_⟩
        replace f11 := f11.mono hz31; replace f12 := f12.mono hz31; replace f13 := f13.mono hz31; replace f20 := f20.mono hz31
        replace hle0 := hle0.trans hz31
        replace hm24 := hm24.trans hz31
        have hS0 := (⟨_, _, hm24, (St.up (St.up (St.up hst31 2 rfl) 2 rfl) 2 rfl)⟩ : (fun w => ∃ ζ Y, Le z10 ζ ∧ Ht w0 (frz ζ :: (blk g21 [vs y15.Name, vi y15.Kind, vi y15.From, vi y15.To] 24) :: (blk g6 [vs p0.Name, vi p0.Kind, vi p0.From, vi p0.To] 24) :: Y) w) _)
        refine ⟨⟨.inr (fun _ => hS0), trivial⟩, ?_⟩
        refine Any.takeE 12 rfl rfl rfl rfl (by kernel_rfl) (fun _ _ _ _ _ h => h) ((Ex.pickT rfl rfl).s) ?_
        refine Any.takeE 13 rfl rfl rfl rfl (by kernel_rfl) (fun _ _ _ _ _ h => h) ((Ex.assign rfl).s) ?_
        refine Any.done (by kernel_rfl) ?_
        obtain rfl := Option.some.inj hf
        exact Run.retV [vb y31] rfl ⟨rfl, trivial⟩ ⟨z31, rfl, hle0, (St.forget (St.forget hst31 2) 1)⟩
      · replace hf := ifFb hc hf
        refine Any.pass 10 rfl rfl rfl rfl (by kernel_rfl) (fun _ _ _ _ _ h => h) ?_
        refine Any.pass 11 rfl rfl rfl rfl (by kernel_rfl) (fun _ _ _ _ _ h => h) ?_
        refine Any.takeE 12 rfl rfl rfl rfl (by kernel_rfl) (fun _ _ _ _ _ h => h) ((Ex.pickF rfl rfl).s) ?_
        refine Any.takeE 13 rfl rfl rfl rfl (by kernel_rfl) (fun _ _ _ _ _ h => h) ((Ex.assign rfl).s) ?_
        refine Any.done (by kernel_rfl) ?_
        obtain rfl := Option.some.inj hf
        exact Run.retV [vb false] rfl ⟨rfl, trivial⟩ ⟨z29, rfl, hle0, (St.forget (St.forget hst29 2) 1)⟩
    · replace hf := ifF (dec_F hc) hf
      refine Any.pass 6 rfl rfl rfl rfl (by kernel_rfl) (fun _ _ _ _ _ h => h) ?_
      refine Any.pass 7 rfl rfl rfl rfl (by kernel_rfl) (fun _ _ _ _ _ h => h) ?_
      refine Any.takeE 8 rfl rfl rfl rfl (by kernel_rfl) (fun _ _ _ _ _ h => h) ((Ex.pickF rfl rfl).s) ?_
      refine Any.takeE 9 rfl rfl rfl rfl (by kernel_rfl) (fun _ _ _ _ _ h => h) ((Ex.move rfl).s) ?_
      refine Any.pass 10 rfl rfl rfl rfl (by kernel_rfl) (fun _ _ _ _ _ h => h) ?_
      refine Any.pass 11 rfl rfl rfl rfl (by kernel_rfl) (fun _ _ _ _ _ h => h) ?_
      refine Any.takeE 12 rfl rfl rfl rfl (by kernel_rfl) (fun _ _ _ _ _ h => h) ((Ex.pickF rfl rfl).s) ?_
      refine Any.takeE 13 rfl rfl rfl rfl (by kernel_rfl) (fun _ _ _ _ _ h => h) ((Ex.assign rfl).s) ?_
      refine Any.done (by kernel_rfl) ?_
      obtain rfl := Option.some.inj hf
      exact Run.retV [vb false] rfl ⟨rfl, trivial⟩ ⟨z27, rfl, hle0, (St.forget (St.forget hst27 2) 1)⟩
def go_law10_EditsFloor.j2 (l191 : List apiRef) (x192 : Int) (nxb7 : (List apiRef × Int) → Option Bool) (x237 : Int) (l238 : List apiRef) (x239 : Int) (b271 : Bool) : Option Bool :=
  if b271 then (some false) else (if x237 = 0 then (nxb7 (l238, x239)) else (nxb7 (l191, x192)))
def go_law10_EditsFloor.j1 (l191 : List apiRef) (x192 : Int) (nxb7 : (List apiRef × Int) → Option Bool) (x237 : Int) (l238 : List apiRef) (x239 : Int) : Option Bool :=
  if x237 = 0 then (go_law10_EditsFloor.j2 l191 x192 nxb7 x237 l238 x239 (decide (x239 < x192))) else (go_law10_EditsFloor.j2 l191 x192 nxb7 x237 l238 x239 false)
def go_law10_EditsFloor.b1 (i7 : Nat) (a7 : law10Step) : (List apiRef × Int) → (List apiRef × Int → Option Bool) → Option Bool :=
  fun (l191, x192) nxb7 => (go_law10_Step_Edit a7).bind fun y241 => (go_edits_Do (⟨l191, x192⟩ : editsSet) y241).bind fun y245 => go_law10_EditsFloor.j1 l191 x192 nxb7 y245.2 y245.1.Refs y245.1.Floor
def go_law10_EditsFloor (p0 : List law10Step) (p1 : UInt8) : Option Bool :=
  (go_law10_awake).bind fun y3 => if y3 then ((cutI p0 0 (min (p0.length : Int) 40)).bind fun l6 => forL (go_law10_EditsFloor.b1) (fun (l191, x192) => (go_edits_Do (⟨l191, x192⟩ : editsSet) (⟨[], [], (p1.toNat : Int)⟩ : editsEdit)).bind fun y274 => if (decide (y274.2 = 0)) = (decide (x192 ≤ (p1.toNat : Int))) then (if y274.2 = 0 then (if y274.1.Floor = (p1.toNat : Int) then (some (decide ((y274.1.Refs.length : Int) = (l191.length : Int)))) else (some false)) else (some true)) else (some false)) 0 l6 ([], 0)) else (some false)
set_option maxRecDepth 100000 in
set_option maxHeartbeats 4000000 in
theorem go_law10_EditsFloor.walk {w0 w : World} {X : List Res} {z0 : Zp} {p0 : List law10Step} {A1 : Option Addr} {c1 : Nat} {p1 : UInt8} {r : Bool} (hst : Ht w0 (frz z0 :: X) w) (f1 : Sl tlaw10Step z0 A1 c1 p0) (hf : go_law10_EditsFloor p0 p1 = some r) :
    Calls Try.prog 4 #[.slice A1 p0.length c1, vu8 p1] w fun e w' => ∃ (z' : Zp), e = .returned (vb r) ∧ Le z0 z' ∧ Ht w0 (frz z' :: X) w' := by
  refine calls_np Try.func4 rfl rfl ?_
  have hle0 := Le.refl z0
  unfold go_law10_EditsFloor at hf
  refine Run.seq ?_
  refine Run.region ?_
  refine Ops.ex (Ex.assign rfl) rfl rfl rfl ?_
  refine Ops.nil ?_
  refine Run.seq ?_
  refine Run.seq ?_
  refine Run.region ?_
  obtain ⟨y3, hy3, hf⟩ := bnd hf
  refine Ops.call rfl rfl Try.func11 (by kernel_rfl) (by kernel_rfl) rfl (go_law10_awake.walk (hst := hst) (hf := hy3)) ?_
  rintro _ w3 ⟨z3, rfl, hz3, hst3⟩
  refine ⟨_, rfl, ?_⟩
  replace f1 := f1.mono hz3
  replace hle0 := hle0.trans hz3
  refine Ops.ex (Ex.not rfl) rfl rfl rfl ?_
  refine Ops.nil ?_
  refine Run.cond rfl (fun hc => ?_) (fun hc => ?_)
  · replace hf := ifFb (bn_T hc) hf
    refine Run.seq ?_
    refine Run.region ?_
    refine Ops.ex (Ex.assign rfl) rfl rfl rfl ?_
    refine Ops.nil ?_
    obtain rfl := Option.some.inj hf
    exact Run.retV [vb false] rfl ⟨rfl, trivial⟩ ⟨z3, rfl, hle0, hst3⟩
  · replace hf := ifTb (bn_F hc) hf
    refine Run.skip ?_
    refine Run.seq ?_
    refine Run.region ?_
    refine Ops.allocF [.slice none 0 0, vi 0] hst3 zr38 rfl rfl (fun g5 w5 hst5 => ?_)
    refine Ops.nil ?_
    refine Run.seq ?_
    refine Run.seq ?_
    refine Run.region ?_
    refine Ops.ex (Ex.move rfl) rfl rfl rfl ?_
    refine Ops.ex (Ex.move rfl) rfl rfl rfl ?_
    refine Ops.ex (Ex.len' rfl rfl rfl Try.underlying36) rfl rfl rfl ?_
    refine Ops.ex (Ex.min2 rfl rfl rfl) rfl rfl rfl ?_
    obtain ⟨l6, hy6, hf⟩ := bnd hf
    obtain ⟨A6, c6, hA6, hB6, f6⟩ := SlH.sub f1.toH hy6
    replace f6 := f6.toS
    refine Ops.ex (Ex.subA hA6 hB6 hy6 rfl rfl Try.underlying36 sz32 rfl rfl) rfl rfl rfl ?_
    refine Ops.ex (Ex.len' rfl rfl rfl Try.underlying36) rfl rfl rfl ?_
    refine Ops.ex (Ex.move rfl) rfl rfl rfl ?_
    refine Ops.nil ?_
    refine Run.block ?_
    have hc7 := f6.cap
    have hm8 := Le.refl z3
    refine Run.sub (e' := [(1, vu8 p1), (5, .pointer (some ⟨g5, 0, none⟩)), (18, .slice A6 l6.length c6), (19, vi (l6.length : Int)), (20, vi ((0 : Nat) : Int))]) (subB_spec ⟨rfl, rfl, rfl, rfl, rfl, trivial⟩) ?_
    refine Run.loop (fun mb7 => (fun e' w' => ∃ (i7 : Nat) (l191 : List apiRef) (x192 : Int) (A191 : Option Addr) (c191 : Nat) (z190 : Zp), mb7 = l6.length - i7 ∧ i7 ≤ l6.length ∧ forL (go_law10_EditsFloor.b1) (fun (l191, x192) => (go_edits_Do (⟨l191, x192⟩ : editsSet) (⟨[], [], (p1.toNat : Int)⟩ : editsEdit)).bind fun y274 => if (decide (y274.2 = 0)) = (decide (x192 ≤ (p1.toNat : Int))) then (if y274.2 = 0 then (if y274.1.Floor = (p1.toNat : Int) then (some (decide ((y274.1.Refs.length : Int) = (l191.length : Int)))) else (some false)) else (some true)) else (some false)) i7 (l6.drop i7) (l191, x192) = some r ∧ e' = [(1, vu8 p1), (5, .pointer (some ⟨g5, 0, none⟩)), (18, .slice A6 l6.length c6), (19, vi (l6.length : Int)), (20, vi (i7 : Int))] ∧ Le z3 z190 ∧ Le z0 z190 ∧ Sl tapiRef z190 A191 c191 l191 ∧ Ht w0 (frz z190 :: (blk g5 [.slice A191 l191.length c191, vi x192] 38) :: X) w')) l6.length ⟨0, [], 0, none, 0, z3, rfl, Nat.zero_le _, hf, rfl, hm8, hle0, (Sl.nil _ _), hst5⟩ ?_
    rintro _ e' w193 ⟨i7, l191, x192, A191, c191, z190, rfl, hi7, hf, rfl, hz193, hy193_0, f191, hst193⟩
    replace f6 := f6.mono hz193
    refine Run.seq ?_
    refine Run.region ?_
    refine Ops.ex (Ex.lss rfl rfl) rfl rfl rfl ?_
    refine Ops.nil ?_
    refine Run.seq ?_
    refine Run.cond rfl (fun hc => ?_) (fun hc => ?_)
    · have hl7 := lt_of_dec hc
      obtain ⟨a7, nxb7, ha7, hnxb7, hf⟩ := forL_in hf hl7
      unfold go_law10_EditsFloor.b1 at hf
      try dsimp only at hf
      refine Run.skip ?_
      refine Run.seq ?_
      refine Run.block ?_
      refine Run.seq ?_
      refine Run.region ?_
      obtain ⟨g202, p202, o202, cs202, hA202, ho202, hr202, f202⟩ := SlH.elem f6.toH (atI_nat ha7)
      obtain ⟨A194, c194, A195, c195, rfl, f194, f195⟩ := hr202
      refine Ops.ex (Ex.ixA hA202 ho202 (atI_nat ha7) rfl rfl rfl Try.underlying36 sz32) rfl rfl rfl ?_
      refine Ops.loadAgg [.slice A194 a7.Add.length c194, .slice A195 a7.Drop.length c195, vu8 a7.Floor, vb a7.Odd, vs a7.Any.Name, vi a7.Any.Kind, vi a7.Any.From, vi a7.Any.To] rfl Try.underlying32 rfl sz32 rfl (cells_of_zc rfl (f202.mono hst193.le)) rfl ?_
      refine Ops.allocF [.slice none 0 0, .slice none 0 0, vu8 0, vb false, vs [], vi 0, vi 0, vi 0] hst193 zr32 rfl rfl (fun g203 w203 hst203 => ?_)
      refine Ops.store 1 [.slice A194 a7.Add.length c194, .slice A195 a7.Drop.length c195, vu8 a7.Floor, vb a7.Odd, vs a7.Any.Name, vi a7.Any.Kind, vi a7.Any.From, vi a7.Any.To] hst203 rfl rfl rfl rfl sz32 rfl (by simp [Value.oneCell']) (by simp) (fun w204 hst204 => ?_)
      refine Ops.nil ?_
      refine Run.seq ?_
      have hm234 := Le.refl z190
      apply Run.jn (fun e' w' => ∃ (x237 : Int) (l238 : List apiRef) (x239 : Int) (g236 : Nat) (A238 : Option Addr) (c238 : Nat) (z235 : Zp), go_law10_EditsFloor.j1 l191 x192 nxb7 x237 l238 x239 = some r ∧ e' = [(1, vu8 p1), (5, .pointer (some ⟨g5, 0, none⟩)), (8, .pointer (some ⟨g236, 0, none⟩)), (9, vi x237), (18, .slice A6 l6.length c6), (19, vi (l6.length : Int)), (20, vi (i7 : Int))] ∧ Le z190 z235 ∧ Le z0 z235 ∧ Le z3 z235 ∧ Sl tapiRef z235 A238 c238 l238 ∧ Ht w0 (frz z235 :: (blk g5 [.slice A191 l191.length c191, vi x192] 38) :: (blk g236 [.slice A238 l238.length c238, vi x239] 38) :: X) w')
      · intro hj205
        refine Run.drawH [([], fun w => ∃ ζ Y, Le z190 ζ ∧ Ht w0 (frz ζ :: (blk g203 [.slice A194 a7.Add.length c194, .slice A195 a7.Drop.length c195, vu8 a7.Floor, vb a7.Odd, vs a7.Any.Name, vi a7.Any.Kind, vi a7.Any.From, vi a7.Any.To] 32) :: (blk g5 [.slice A191 l191.length c191, vi x192] 38) :: Y) w)] (by kernel_rfl) hst204 (fun w240 hst240 => ?_)
        have hS0 := (⟨_, _, (Le.refl _), (St.up (St.up (St.up hst240 2 rfl) 2 rfl) 2 rfl)⟩ : (fun w => ∃ ζ Y, Le z190 ζ ∧ Ht w0 (frz ζ :: (blk g203 [.slice A194 a7.Add.length c194, .slice A195 a7.Drop.length c195, vu8 a7.Floor, vb a7.Odd, vs a7.Any.Name, vi a7.Any.Kind, vi a7.Any.From, vi a7.Any.To] 32) :: (blk g5 [.slice A191 l191.length c191, vi x192] 38) :: Y) w) _)
        refine Any.take 0 0 rfl rfl rfl rfl rfl (by kernel_rfl) (fun _ _ _ _ _ h => h) (ExS.loadAgg [.slice A191 l191.length c191, vi x192] rfl Try.underlying38 rfl sz38 rfl (fun w hS => by obtain ⟨_, _, _, hs⟩ := hS; exact hs.cells (i := 2) rfl 0 2)) hS0 ?_
        refine Any.take 0 1 rfl rfl rfl rfl rfl (by kernel_rfl) (fun _ _ _ _ _ h => h) (ExS.loadAgg [.slice A194 a7.Add.length c194, .slice A195 a7.Drop.length c195, vu8 a7.Floor, vb a7.Odd, vs a7.Any.Name, vi a7.Any.Kind, vi a7.Any.From, vi a7.Any.To] rfl Try.underlying32 rfl sz32 rfl (fun w hS => by obtain ⟨_, _, _, hs⟩ := hS; exact hs.cells (i := 1) rfl 0 8)) hS0 ?_
        refine Any.all [2, 7] (by kernel_rfl) rfl (fun i hi => ?_)
        simp only [List.mem_cons, List.not_mem_nil, or_false] at hi
        rcases hi with rfl | rfl
        · skip
          obtain ⟨y241, hy241, hf⟩ := bnd hf
          refine ⟨_, rfl, rfl, One.of_ops rfl ?_⟩
          refine Ops.call rfl rfl Try.func12 (by kernel_rfl) (by kernel_rfl) rfl (go_law10_Step_Edit.walk (p0 := a7) (hst := hst240) (f1 := f194) (f2 := f195) (hf := hy241)) ?_
          rintro _ w241 ⟨z241, A242, c242, A243, c243, rfl, hz241, f242, f243, hst241⟩
          refine ⟨_, rfl, Ops.stop ?_⟩
          replace f6 := f6.mono hz241; replace f202 := f202.mono hz241; replace f194 := f194.mono hz241; replace f195 := f195.mono hz241; replace f191 := f191.mono hz241
          replace hy193_0 := hy193_0.trans hz241
          replace hz193 := hz193.trans hz241
          replace hm234 := hm234.trans hz241
          have hS0 := (⟨_, _, hm234, (St.up (St.up (St.up hst241 2 rfl) 2 rfl) 2 rfl)⟩ : (fun w => ∃ ζ Y, Le z190 ζ ∧ Ht w0 (frz ζ :: (blk g203 [.slice A194 a7.Add.length c194, .slice A195 a7.Drop.length c195, vu8 a7.Floor, vb a7.Odd, vs a7.Any.Name, vi a7.Any.Kind, vi a7.Any.From, vi a7.Any.To] 32) :: (blk g5 [.slice A191 l191.length c191, vi x192] 38) :: Y) w) _)
          refine ⟨⟨.inr (fun _ => hS0), trivial⟩, ?_⟩
          refine Any.all [3, 7] (by kernel_rfl) rfl (fun i hi => ?_)
          simp only [List.mem_cons, List.not_mem_nil, or_false] at hi
          rcases hi with rfl | rfl
          · skip
            obtain ⟨y245, hy245, hf⟩ := bnd hf
            refine ⟨_, rfl, rfl, One.of_ops rfl ?_⟩
            refine Ops.call rfl rfl Try.func15 (by kernel_rfl) (by kernel_rfl) rfl (go_edits_Do.walk (p0 := (⟨l191, x192⟩ : editsSet)) (p1 := y241) (hst := hst241) (f1 := f191) (f3 := f242) (f4 := f243) (hf := hy245)) ?_
            rintro _ w245 ⟨z245, A246, c246, rfl, hz245, f246, hst245⟩
            refine ⟨_, rfl, Ops.stop ?_⟩
            replace f6 := f6.mono hz245; replace f202 := f202.mono hz245; replace f194 := f194.mono hz245; replace f195 := f195.mono hz245; replace f191 := f191.mono hz245; replace f242 := f242.mono hz245; replace f243 := f243.mono hz245
            replace hy193_0 := hy193_0.trans hz245
            replace hz193 := hz193.trans hz245
            replace hm234 := hm234.trans hz245
            have hS0 := (⟨_, _, hm234, (St.up (St.up (St.up hst245 2 rfl) 2 rfl) 2 rfl)⟩ : (fun w => ∃ ζ Y, Le z190 ζ ∧ Ht w0 (frz ζ :: (blk g203 [.slice A194 a7.Add.length c194, .slice A195 a7.Drop.length c195, vu8 a7.Floor, vb a7.Odd, vs a7.Any.Name, vi a7.Any.Kind, vi a7.Any.From, vi a7.Any.To] 32) :: (blk g5 [.slice A191 l191.length c191, vi x192] 38) :: Y) w) _)
            refine ⟨⟨.inr (fun _ => hS0), trivial⟩, ?_⟩
            refine Any.takeE 4 rfl rfl rfl rfl (by kernel_rfl) (fun _ _ _ _ _ h => h) ((Ex.move rfl).s) ?_
            refine Any.takeE 5 rfl rfl rfl rfl (by kernel_rfl) (fun _ _ _ _ _ h => h) ((Ex.extract rfl rfl).s) ?_
            refine Any.takeE 6 rfl rfl rfl rfl (by kernel_rfl) (fun _ _ _ _ _ h => h) ((Ex.extract rfl rfl).s) ?_
            refine Any.one 7 (by kernel_rfl) rfl rfl (One.of_ops rfl ?_)
            refine Ops.allocF [.slice none 0 0, vi 0] hst245 zr38 rfl rfl (fun g249 w249 hst249 => Ops.stop ?_)
            have hS0 := (⟨_, _, hm234, (St.up (St.up (St.up hst249 3 rfl) 3 rfl) 2 rfl)⟩ : (fun w => ∃ ζ Y, Le z190 ζ ∧ Ht w0 (frz ζ :: (blk g203 [.slice A194 a7.Add.length c194, .slice A195 a7.Drop.length c195, vu8 a7.Floor, vb a7.Odd, vs a7.Any.Name, vi a7.Any.Kind, vi a7.Any.From, vi a7.Any.To] 32) :: (blk g5 [.slice A191 l191.length c191, vi x192] 38) :: Y) w) _)
            refine ⟨⟨.inr (fun _ => hS0), trivial⟩, ?_⟩
            refine Any.one 8 (by kernel_rfl) rfl rfl (One.of_ops rfl ?_)
            refine Ops.store 1 [.slice A246 y245.1.Refs.length c246, vi y245.1.Floor] hst249 rfl rfl rfl rfl sz38 rfl (by simp [Value.oneCell']) (by simp) (fun w250 hst250 => Ops.stop ?_)
            have hS0 := (⟨_, _, hm234, (St.up (St.up (St.up hst250 3 rfl) 3 rfl) 2 rfl)⟩ : (fun w => ∃ ζ Y, Le z190 ζ ∧ Ht w0 (frz ζ :: (blk g203 [.slice A194 a7.Add.length c194, .slice A195 a7.Drop.length c195, vu8 a7.Floor, vb a7.Odd, vs a7.Any.Name, vi a7.Any.Kind, vi a7.Any.From, vi a7.Any.To] 32) :: (blk g5 [.slice A191 l191.length c191, vi x192] 38) :: Y) w) _)
            refine ⟨⟨.inr (fun _ => hS0), trivial⟩, ?_⟩
            refine Any.takeE 9 rfl rfl rfl rfl (by kernel_rfl) (fun _ _ _ _ _ h => h) ((Ex.assign rfl).s) ?_
            refine Any.done (by kernel_rfl) ?_
            exact Run.sub (by exact subB_spec ⟨rfl, rfl, rfl, rfl, rfl, rfl, rfl, trivial⟩) (hj205 _ _ ⟨y245.2, y245.1.Refs, y245.1.Floor, g249, A246, c246, z245, hf, rfl, hm234, hy193_0, hz193, f246, (St.up (St.up (St.up (St.forget hst250 2) 1 rfl) 2 rfl) 2 rfl)⟩)
          · skip
            refine ⟨_, rfl, rfl, One.of_ops rfl ?_⟩
            refine Ops.allocF [.slice none 0 0, vi 0] hst241 zr38 rfl rfl (fun g251 w251 hst251 => Ops.stop ?_)
            have hS0 := (⟨_, _, hm234, (St.up (St.up (St.up hst251 3 rfl) 3 rfl) 2 rfl)⟩ : (fun w => ∃ ζ Y, Le z190 ζ ∧ Ht w0 (frz ζ :: (blk g203 [.slice A194 a7.Add.length c194, .slice A195 a7.Drop.length c195, vu8 a7.Floor, vb a7.Odd, vs a7.Any.Name, vi a7.Any.Kind, vi a7.Any.From, vi a7.Any.To] 32) :: (blk g5 [.slice A191 l191.length c191, vi x192] 38) :: Y) w) _)
            refine ⟨⟨.inr (fun _ => hS0), trivial⟩, ?_⟩
            obtain ⟨y252, hy252, hf⟩ := bnd hf
            refine Any.one 3 (by kernel_rfl) rfl rfl (One.of_ops rfl ?_)
            refine Ops.call rfl rfl Try.func15 (by kernel_rfl) (by kernel_rfl) rfl (go_edits_Do.walk (p0 := (⟨l191, x192⟩ : editsSet)) (p1 := y241) (hst := hst251) (f1 := f191) (f3 := f242) (f4 := f243) (hf := hy252)) ?_
            rintro _ w252 ⟨z252, A253, c253, rfl, hz252, f253, hst252⟩
            refine ⟨_, rfl, Ops.stop ?_⟩
            replace f6 := f6.mono hz252; replace f202 := f202.mono hz252; replace f194 := f194.mono hz252; replace f195 := f195.mono hz252; replace f191 := f191.mono hz252; replace f242 := f242.mono hz252; replace f243 := f243.mono hz252
            replace hy193_0 := hy193_0.trans hz252
            replace hz193 := hz193.trans hz252
            replace hm234 := hm234.trans hz252
            have hS0 := (⟨_, _, hm234, (St.up (St.up (St.up hst252 3 rfl) 3 rfl) 2 rfl)⟩ : (fun w => ∃ ζ Y, Le z190 ζ ∧ Ht w0 (frz ζ :: (blk g203 [.slice A194 a7.Add.length c194, .slice A195 a7.Drop.length c195, vu8 a7.Floor, vb a7.Odd, vs a7.Any.Name, vi a7.Any.Kind, vi a7.Any.From, vi a7.Any.To] 32) :: (blk g5 [.slice A191 l191.length c191, vi x192] 38) :: Y) w) _)
            refine ⟨⟨.inr (fun _ => hS0), trivial⟩, ?_⟩
            refine Any.takeE 4 rfl rfl rfl rfl (by kernel_rfl) (fun _ _ _ _ _ h => h) ((Ex.move rfl).s) ?_
            refine Any.takeE 5 rfl rfl rfl rfl (by kernel_rfl) (fun _ _ _ _ _ h => h) ((Ex.extract rfl rfl).s) ?_
            refine Any.takeE 6 rfl rfl rfl rfl (by kernel_rfl) (fun _ _ _ _ _ h => h) ((Ex.extract rfl rfl).s) ?_
            refine Any.one 8 (by kernel_rfl) rfl rfl (One.of_ops rfl ?_)
            refine Ops.store 1 [.slice A253 y252.1.Refs.length c253, vi y252.1.Floor] hst252 rfl rfl rfl rfl sz38 rfl (by simp [Value.oneCell']) (by simp) (fun w256 hst256 => Ops.stop ?_)
            have hS0 := (⟨_, _, hm234, (St.up (St.up (St.up hst256 3 rfl) 3 rfl) 2 rfl)⟩ : (fun w => ∃ ζ Y, Le z190 ζ ∧ Ht w0 (frz ζ :: (blk g203 [.slice A194 a7.Add.length c194, .slice A195 a7.Drop.length c195, vu8 a7.Floor, vb a7.Odd, vs a7.Any.Name, vi a7.Any.Kind, vi a7.Any.From, vi a7.Any.To] 32) :: (blk g5 [.slice A191 l191.length c191, vi x192] 38) :: Y) w) _)
            refine ⟨⟨.inr (fun _ => hS0), trivial⟩, ?_⟩
            refine Any.takeE 9 rfl rfl rfl rfl (by kernel_rfl) (fun _ _ _ _ _ h => h) ((Ex.assign rfl).s) ?_
            refine Any.done (by kernel_rfl) ?_
            exact Run.sub (by exact subB_spec ⟨rfl, rfl, rfl, rfl, rfl, rfl, rfl, trivial⟩) (hj205 _ _ ⟨y252.2, y252.1.Refs, y252.1.Floor, g251, A253, c253, z252, hf, rfl, hm234, hy193_0, hz193, f253, (St.up (St.up (St.up (St.forget hst256 2) 1 rfl) 2 rfl) 2 rfl)⟩)
        · skip
          refine ⟨_, rfl, rfl, One.of_ops rfl ?_⟩
          refine Ops.allocF [.slice none 0 0, vi 0] hst240 zr38 rfl rfl (fun g257 w257 hst257 => Ops.stop ?_)
          have hS0 := (⟨_, _, (Le.refl _), (St.up (St.up (St.up hst257 3 rfl) 3 rfl) 2 rfl)⟩ : (fun w => ∃ ζ Y, Le z190 ζ ∧ Ht w0 (frz ζ :: (blk g203 [.slice A194 a7.Add.length c194, .slice A195 a7.Drop.length c195, vu8 a7.Floor, vb a7.Odd, vs a7.Any.Name, vi a7.Any.Kind, vi a7.Any.From, vi a7.Any.To] 32) :: (blk g5 [.slice A191 l191.length c191, vi x192] 38) :: Y) w) _)
          refine ⟨⟨.inr (fun _ => hS0), trivial⟩, ?_⟩
          obtain ⟨y258, hy258, hf⟩ := bnd hf
          refine Any.one 2 (by kernel_rfl) rfl rfl (One.of_ops rfl ?_)
          refine Ops.call rfl rfl Try.func12 (by kernel_rfl) (by kernel_rfl) rfl (go_law10_Step_Edit.walk (p0 := a7) (hst := hst257) (f1 := f194) (f2 := f195) (hf := hy258)) ?_
          rintro _ w258 ⟨z258, A259, c259, A260, c260, rfl, hz258, f259, f260, hst258⟩
          refine ⟨_, rfl, Ops.stop ?_⟩
          replace f6 := f6.mono hz258; replace f202 := f202.mono hz258; replace f194 := f194.mono hz258; replace f195 := f195.mono hz258; replace f191 := f191.mono hz258
          replace hy193_0 := hy193_0.trans hz258
          replace hz193 := hz193.trans hz258
          replace hm234 := hm234.trans hz258
          have hS0 := (⟨_, _, hm234, (St.up (St.up (St.up hst258 3 rfl) 3 rfl) 2 rfl)⟩ : (fun w => ∃ ζ Y, Le z190 ζ ∧ Ht w0 (frz ζ :: (blk g203 [.slice A194 a7.Add.length c194, .slice A195 a7.Drop.length c195, vu8 a7.Floor, vb a7.Odd, vs a7.Any.Name, vi a7.Any.Kind, vi a7.Any.From, vi a7.Any.To] 32) :: (blk g5 [.slice A191 l191.length c191, vi x192] 38) :: Y) w) _)
          refine ⟨⟨.inr (fun _ => hS0), trivial⟩, ?_⟩
          obtain ⟨y262, hy262, hf⟩ := bnd hf
          refine Any.one 3 (by kernel_rfl) rfl rfl (One.of_ops rfl ?_)
          refine Ops.call rfl rfl Try.func15 (by kernel_rfl) (by kernel_rfl) rfl (go_edits_Do.walk (p0 := (⟨l191, x192⟩ : editsSet)) (p1 := y258) (hst := hst258) (f1 := f191) (f3 := f259) (f4 := f260) (hf := hy262)) ?_
          rintro _ w262 ⟨z262, A263, c263, rfl, hz262, f263, hst262⟩
          refine ⟨_, rfl, Ops.stop ?_⟩
          replace f6 := f6.mono hz262; replace f202 := f202.mono hz262; replace f194 := f194.mono hz262; replace f195 := f195.mono hz262; replace f191 := f191.mono hz262; replace f259 := f259.mono hz262; replace f260 := f260.mono hz262
          replace hy193_0 := hy193_0.trans hz262
          replace hz193 := hz193.trans hz262
          replace hm234 := hm234.trans hz262
          have hS0 := (⟨_, _, hm234, (St.up (St.up (St.up hst262 3 rfl) 3 rfl) 2 rfl)⟩ : (fun w => ∃ ζ Y, Le z190 ζ ∧ Ht w0 (frz ζ :: (blk g203 [.slice A194 a7.Add.length c194, .slice A195 a7.Drop.length c195, vu8 a7.Floor, vb a7.Odd, vs a7.Any.Name, vi a7.Any.Kind, vi a7.Any.From, vi a7.Any.To] 32) :: (blk g5 [.slice A191 l191.length c191, vi x192] 38) :: Y) w) _)
          refine ⟨⟨.inr (fun _ => hS0), trivial⟩, ?_⟩
          refine Any.takeE 4 rfl rfl rfl rfl (by kernel_rfl) (fun _ _ _ _ _ h => h) ((Ex.move rfl).s) ?_
          refine Any.takeE 5 rfl rfl rfl rfl (by kernel_rfl) (fun _ _ _ _ _ h => h) ((Ex.extract rfl rfl).s) ?_
          refine Any.takeE 6 rfl rfl rfl rfl (by kernel_rfl) (fun _ _ _ _ _ h => h) ((Ex.extract rfl rfl).s) ?_
          refine Any.one 8 (by kernel_rfl) rfl rfl (One.of_ops rfl ?_)
          refine Ops.store 1 [.slice A263 y262.1.Refs.length c263, vi y262.1.Floor] hst262 rfl rfl rfl rfl sz38 rfl (by simp [Value.oneCell']) (by simp) (fun w266 hst266 => Ops.stop ?_)
          have hS0 := (⟨_, _, hm234, (St.up (St.up (St.up hst266 3 rfl) 3 rfl) 2 rfl)⟩ : (fun w => ∃ ζ Y, Le z190 ζ ∧ Ht w0 (frz ζ :: (blk g203 [.slice A194 a7.Add.length c194, .slice A195 a7.Drop.length c195, vu8 a7.Floor, vb a7.Odd, vs a7.Any.Name, vi a7.Any.Kind, vi a7.Any.From, vi a7.Any.To] 32) :: (blk g5 [.slice A191 l191.length c191, vi x192] 38) :: Y) w) _)
          refine ⟨⟨.inr (fun _ => hS0), trivial⟩, ?_⟩
          refine Any.takeE 9 rfl rfl rfl rfl (by kernel_rfl) (fun _ _ _ _ _ h => h) ((Ex.assign rfl).s) ?_
          refine Any.done (by kernel_rfl) ?_
          exact Run.sub (by exact subB_spec ⟨rfl, rfl, rfl, rfl, rfl, rfl, rfl, trivial⟩) (hj205 _ _ ⟨y262.2, y262.1.Refs, y262.1.Floor, g257, A263, c263, z262, hf, rfl, hm234, hy193_0, hz193, f263, (St.up (St.up (St.up (St.forget hst266 2) 1 rfl) 2 rfl) 2 rfl)⟩)
      · rintro e' w267 ⟨x237, l238, x239, g236, A238, c238, z235, hf, rfl, hz267, hy267_0, hy267_1, f238, hst267⟩
        replace f6 := f6.mono hz267; replace f191 := f191.mono hz267
        unfold go_law10_EditsFloor.j1 at hf
        refine Run.seq ?_
        refine Run.seq ?_
        have hm269 := Le.refl z235
        apply Run.jn (fun e' w' => ∃ (b271 : Bool) (z270 : Zp), go_law10_EditsFloor.j2 l191 x192 nxb7 x237 l238 x239 b271 = some r ∧ e' = [(1, vu8 p1), (5, .pointer (some ⟨g5, 0, none⟩)), (8, .pointer (some ⟨g236, 0, none⟩)), (9, vi x237), (18, .slice A6 l6.length c6), (19, vi (l6.length : Int)), (20, vi (i7 : Int)), (39, vb b271)] ∧ Le z235 z270 ∧ Le z0 z270 ∧ Le z3 z270 ∧ Le z190 z270 ∧ Ht w0 (frz z270 :: (blk g5 [.slice A191 l191.length c191, vi x192] 38) :: (blk g236 [.slice A238 l238.length c238, vi x239] 38) :: X) w')
        · intro hj268
          refine Run.region ?_
          refine Ops.ex (Ex.move rfl) rfl rfl rfl ?_
          refine Ops.ex (Ex.eqlI rfl rfl) rfl rfl rfl ?_
          refine Ops.ex (Ex.move rfl) rfl rfl rfl ?_
          refine Ops.case 33 rfl (fun hc => ?_) (fun hc => ?_)
          · replace hf := ifT (dec_T hc) hf
            refine Ops.on rfl ?_
            refine Ops.ex (Ex.fieldAddr rfl Try.underlying38 rfl sz3) rfl rfl rfl ?_
            refine Ops.on rfl ?_
            refine Ops.load rfl Try.underlying3 rfl (hst267.cell (i := 2) rfl rfl) rfl ?_
            refine Ops.on rfl ?_
            refine Ops.ex (Ex.fieldAddr rfl Try.underlying38 rfl sz3) rfl rfl rfl ?_
            refine Ops.on rfl ?_
            refine Ops.load rfl Try.underlying3 rfl (hst267.cell (i := 1) rfl rfl) rfl ?_
            refine Ops.on rfl ?_
            refine Ops.ex (Ex.lss rfl rfl) rfl rfl rfl ?_
            refine Ops.ex (Ex.pickT rfl rfl) rfl rfl rfl ?_
            refine Ops.nil ?_
            exact Run.sub (by exact subB_spec ⟨rfl, rfl, rfl, rfl, rfl, rfl, rfl, rfl, trivial⟩) (hj268 _ _ ⟨decide (x239 < x192), z235, hf, rfl, hm269, hy267_0, hy267_1, hz267, hst267⟩)
          · replace hf := ifF (dec_F hc) hf
            refine Ops.off rfl rfl ?_
            refine Ops.off rfl rfl ?_
            refine Ops.off rfl rfl ?_
            refine Ops.off rfl rfl ?_
            refine Ops.off rfl rfl ?_
            refine Ops.ex (Ex.pickF rfl rfl) rfl rfl rfl ?_
            refine Ops.nil ?_
            exact Run.sub (by exact subB_spec ⟨rfl, rfl, rfl, rfl, rfl, rfl, rfl, rfl, trivial⟩) (hj268 _ _ ⟨false, z235, hf, rfl, hm269, hy267_0, hy267_1, hz267, hst267⟩)
        · rintro e' w272 ⟨b271, z270, hf, rfl, hz272, hy272_0, hy272_1, hy272_2, hst272⟩
          replace f6 := f6.mono hz272; replace f191 := f191.mono hz272; replace f238 := f238.mono hz272
          unfold go_law10_EditsFloor.j2 at hf
          refine Run.cond rfl (fun hc => ?_) (fun hc => ?_)
          · replace hf := ifTb hc hf
            refine Run.seq ?_
            refine Run.region ?_
            refine Ops.ex (Ex.assign rfl) rfl rfl rfl ?_
            refine Ops.nil ?_
            obtain rfl := Option.some.inj hf
            exact Run.retV [vb false] rfl ⟨rfl, trivial⟩ ⟨z270, rfl, hy272_0, (St.forget (St.forget hst272 2) 1)⟩
          · replace hf := ifFb hc hf
            refine Run.skip ?_
            refine Run.seq ?_
            refine Run.region ?_
            refine Ops.ex (Ex.move rfl) rfl rfl rfl ?_
            refine Ops.ex (Ex.eqlI rfl rfl) rfl rfl rfl ?_
            refine Ops.nil ?_
            refine Run.cond rfl (fun hc => ?_) (fun hc => ?_)
            · replace hf := ifT (dec_T hc) hf
              refine Run.region ?_
              refine Ops.loadAgg _ rfl Try.underlying38 rfl sz38 rfl (hst272.cells (i := 2) rfl 0 2) rfl ?_
              refine Ops.store 1 [.slice A238 l238.length c238, vi x239] hst272 rfl rfl rfl rfl sz38 rfl (by simp [Value.oneCell']) (by simp) (fun w273 hst273 => ?_)
              refine Ops.nil ?_
              refine Run.endBlk ?_
              refine Run.region ?_
              refine Ops.ex (Ex.add rfl rfl) rfl rfl rfl ?_
              refine Ops.ex (Ex.move rfl) rfl rfl rfl ?_
              refine Ops.nil ?_
              refine Run.re 20 rfl (congrArg vi (wr_succ' hl7 hc7)) ?_
              exact Run.sub (by exact subB_spec ⟨rfl, rfl, rfl, rfl, rfl, trivial⟩) (Run.stop ⟨l6.length - (i7 + 1), by omega, i7 + 1, l238, x239, A238, c238, z270, rfl, by omega, (hnxb7 _).symm.trans hf, rfl, hy272_1, hy272_0, f238, (St.forget hst273 2)⟩)
            · replace hf := ifF (dec_F hc) hf
              refine Run.skip ?_
              refine Run.endBlk ?_
              refine Run.region ?_
              refine Ops.ex (Ex.add rfl rfl) rfl rfl rfl ?_
              refine Ops.ex (Ex.move rfl) rfl rfl rfl ?_
              refine Ops.nil ?_
              refine Run.re 20 rfl (congrArg vi (wr_succ' hl7 hc7)) ?_
              exact Run.sub (by exact subB_spec ⟨rfl, rfl, rfl, rfl, rfl, trivial⟩) (Run.stop ⟨l6.length - (i7 + 1), by omega, i7 + 1, l191, x192, A191, c191, z270, rfl, by omega, (hnxb7 _).symm.trans hf, rfl, hy272_1, hy272_0, f191, (St.forget hst272 2)⟩)
    · replace hf := forL_out hf (nlt_of_dec hc)
      try dsimp only at hf
      refine Run.exit _ rfl ?_
      refine Run.seq ?_
      refine Run.region ?_
      refine Ops.loadAgg _ rfl Try.underlying38 rfl sz38 rfl (hst193.cells (i := 1) rfl 0 2) rfl ?_
      refine Ops.ex (Ex.move rfl) rfl rfl rfl ?_
      refine Ops.ex (Ex.cu8 rfl Try.underlying5 Try.underlying3) rfl rfl rfl ?_
      refine Ops.ex (Ex.build [.slice none 0 0, .slice none 0 0, vi (p1.toNat : Int)] rfl Try.underlying29 zr29 (pl29 Try.underlying29) (by kernel_rfl)) rfl rfl rfl ?_
      obtain ⟨y274, hy274, hf⟩ := bnd hf
      refine Ops.call rfl rfl Try.func15 (by kernel_rfl) (by kernel_rfl) rfl (go_edits_Do.walk (p0 := (⟨l191, x192⟩ : editsSet)) (p1 := (⟨[], [], (p1.toNat : Int)⟩ : editsEdit)) (hst := hst193) (f1 := f191) (f3 := Sl.nil _ _) (f4 := Sl.nil _ _) (hf := hy274)) ?_
      rintro _ w274 ⟨z274, A275, c275, rfl, hz274, f275, hst274⟩
      refine ⟨_, rfl, ?_⟩
      replace f6 := f6.mono hz274; replace f191 := f191.mono hz274
      replace hy193_0 := hy193_0.trans hz274
      replace hz193 := hz193.trans hz274
      refine Ops.ex (Ex.move rfl) rfl rfl rfl ?_
      refine Ops.ex (Ex.extract rfl rfl) rfl rfl rfl ?_
      refine Ops.ex (Ex.extract rfl rfl) rfl rfl rfl ?_
      refine Ops.allocF [.slice none 0 0, vi 0] hst274 zr38 rfl rfl (fun g278 w278 hst278 => ?_)
      refine Ops.store 1 [.slice A275 y274.1.Refs.length c275, vi y274.1.Floor] hst278 rfl rfl rfl rfl sz38 rfl (by simp [Value.oneCell']) (by simp) (fun w279 hst279 => ?_)
      refine Ops.ex (Ex.assign rfl) rfl rfl rfl ?_
      refine Ops.nil ?_
      refine Run.seq ?_
      refine Run.region ?_
      refine Ops.ex (Ex.move rfl) rfl rfl rfl ?_
      refine Ops.ex (Ex.eqlI rfl rfl) rfl rfl rfl ?_
      refine Ops.ex (Ex.move rfl) rfl rfl rfl ?_
      refine Ops.ex (Ex.cu8 rfl Try.underlying5 Try.underlying3) rfl rfl rfl ?_
      refine Ops.ex (Ex.fieldAddr rfl Try.underlying38 rfl sz3) rfl rfl rfl ?_
      refine Ops.load rfl Try.underlying3 rfl (hst279.cell (i := 2) rfl rfl) rfl ?_
      refine Ops.ex (Ex.geq rfl rfl) rfl rfl rfl ?_
      refine Ops.ex (Ex.eqlBo rfl rfl Try.underlying4) rfl rfl rfl ?_
      refine Ops.ex (Ex.move rfl) rfl rfl rfl ?_
      refine Ops.case 60 rfl (fun hc => ?_) (fun hc => ?_)
      · replace hf := ifT (dec_T hc) hf
        refine Ops.on rfl ?_
        refine Ops.ex (Ex.move rfl) rfl rfl rfl ?_
        refine Ops.on rfl ?_
        refine Ops.ex (Ex.neqI rfl rfl) rfl rfl rfl ?_
        refine Ops.on rfl ?_
        refine Ops.ex (Ex.move rfl) rfl rfl rfl ?_
        refine Ops.case 63 rfl (fun hc => ?_) (fun hc => ?_)
        · replace hf := ifF (neq_T hc) hf
          refine Ops.off rfl rfl ?_
          refine Ops.off rfl rfl ?_
          refine Ops.off rfl rfl ?_
          refine Ops.off rfl rfl ?_
          refine Ops.off rfl rfl ?_
          refine Ops.off rfl rfl ?_
          refine Ops.offU rfl rfl ?_
          refine Ops.offU rfl rfl ?_
          refine Ops.offU rfl rfl ?_
          refine Ops.offU rfl rfl ?_
          refine Ops.offU rfl rfl ?_
          refine Ops.offU rfl rfl ?_
          refine Ops.offU rfl rfl ?_
          refine Ops.off rfl rfl ?_
          refine Ops.on rfl ?_
          refine Ops.ex (Ex.pickT rfl rfl) rfl rfl rfl ?_
          refine Ops.ex (Ex.pickT rfl rfl) rfl rfl rfl ?_
          refine Ops.ex (Ex.assign rfl) rfl rfl rfl ?_
          refine Ops.nil ?_
          obtain rfl := Option.some.inj hf
          exact Run.retV [vb true] rfl ⟨rfl, trivial⟩ ⟨z274, rfl, hy193_0, (St.forget (St.forget hst279 2) 1)⟩
        · replace hf := ifT (neq_F hc) hf
          refine Ops.on rfl ?_
          refine Ops.ex (Ex.fieldAddr rfl Try.underlying38 rfl sz3) rfl rfl rfl ?_
          refine Ops.on rfl ?_
          refine Ops.load rfl Try.underlying3 rfl (hst279.cell (i := 1) rfl rfl) rfl ?_
          refine Ops.on rfl ?_
          refine Ops.ex (Ex.move rfl) rfl rfl rfl ?_
          refine Ops.on rfl ?_
          refine Ops.ex (Ex.cu8 rfl Try.underlying5 Try.underlying3) rfl rfl rfl ?_
          refine Ops.on rfl ?_
          refine Ops.ex (Ex.eqlI rfl rfl) rfl rfl rfl ?_
          refine Ops.on rfl ?_
          refine Ops.ex (Ex.move rfl) rfl rfl rfl ?_
          refine Ops.case 69 rfl (fun hc => ?_) (fun hc => ?_)
          · replace hf := ifT (dec_T hc) hf
            refine Ops.on rfl ?_
            refine Ops.ex (Ex.fieldAddr rfl Try.underlying38 rfl sz26) rfl rfl rfl ?_
            refine Ops.on rfl ?_
            refine Ops.load rfl Try.underlying26 rfl (hst279.cell (i := 1) rfl rfl) rfl ?_
            refine Ops.on rfl ?_
            refine Ops.ex (Ex.len' rfl rfl rfl Try.underlying26) rfl rfl rfl ?_
            refine Ops.on rfl ?_
            refine Ops.ex (Ex.fieldAddr rfl Try.underlying38 rfl sz26) rfl rfl rfl ?_
            refine Ops.on rfl ?_
            refine Ops.load rfl Try.underlying26 rfl (hst279.cell (i := 2) rfl rfl) rfl ?_
            refine Ops.on rfl ?_
            refine Ops.ex (Ex.len' rfl rfl rfl Try.underlying26) rfl rfl rfl ?_
            refine Ops.on rfl ?_
            refine Ops.ex (Ex.eqlI rfl rfl) rfl rfl rfl ?_
            refine Ops.on rfl ?_
            refine Ops.ex (Ex.pickT rfl rfl) rfl rfl rfl ?_
            refine Ops.on rfl ?_
            refine Ops.ex (Ex.pickF rfl rfl) rfl rfl rfl ?_
            refine Ops.ex (Ex.pickT rfl rfl) rfl rfl rfl ?_
            refine Ops.ex (Ex.assign rfl) rfl rfl rfl ?_
            refine Ops.nil ?_
            obtain rfl := Option.some.inj hf
            exact Run.retV [vb (decide ((y274.1.Refs.length : Int) = (l191.length : Int)))] rfl ⟨rfl, trivial⟩ ⟨z274, rfl, hy193_0, (St.forget (St.forget hst279 2) 1)⟩
          · replace hf := ifF (dec_F hc) hf
            refine Ops.off rfl rfl ?_
            refine Ops.off rfl rfl ?_
            refine Ops.off rfl rfl ?_
            refine Ops.off rfl rfl ?_
            refine Ops.off rfl rfl ?_
            refine Ops.off rfl rfl ?_
            refine Ops.off rfl rfl ?_
            refine Ops.on rfl ?_
            refine Ops.ex (Ex.pickF rfl rfl) rfl rfl rfl ?_
            refine Ops.on rfl ?_
            refine Ops.ex (Ex.pickF rfl rfl) rfl rfl rfl ?_
            refine Ops.ex (Ex.pickT rfl rfl) rfl rfl rfl ?_
            refine Ops.ex (Ex.assign rfl) rfl rfl rfl ?_
            refine Ops.nil ?_
            obtain rfl := Option.some.inj hf
            exact Run.retV [vb false] rfl ⟨rfl, trivial⟩ ⟨z274, rfl, hy193_0, (St.forget (St.forget hst279 2) 1)⟩
      · replace hf := ifF (dec_F hc) hf
        refine Ops.off rfl rfl ?_
        refine Ops.off rfl rfl ?_
        refine Ops.off rfl rfl ?_
        refine Ops.offU rfl rfl ?_
        refine Ops.offU rfl rfl ?_
        refine Ops.offU rfl rfl ?_
        refine Ops.offU rfl rfl ?_
        refine Ops.offU rfl rfl ?_
        refine Ops.offU rfl rfl ?_
        refine Ops.offU rfl rfl ?_
        refine Ops.offU rfl rfl ?_
        refine Ops.offU rfl rfl ?_
        refine Ops.offU rfl rfl ?_
        refine Ops.offU rfl rfl ?_
        refine Ops.offU rfl rfl ?_
        refine Ops.offU rfl rfl ?_
        refine Ops.offU rfl rfl ?_
        refine Ops.off rfl rfl ?_
        refine Ops.ex (Ex.pickF rfl rfl) rfl rfl rfl ?_
        refine Ops.ex (Ex.assign rfl) rfl rfl rfl ?_
        refine Ops.nil ?_
        obtain rfl := Option.some.inj hf
        exact Run.retV [vb false] rfl ⟨rfl, trivial⟩ ⟨z274, rfl, hy193_0, (St.forget (St.forget hst279 2) 1)⟩
def go_law10_EditsOnce.j1 (l249 : List apiRef) (x250 : Int) (a7 : law10Step) (nxb7 : (List apiRef × Int) → Option Bool) (x295 : Int) (l296 : List apiRef) (x297 : Int) : Option Bool :=
  if x295 = 0 then (if a7.Odd then (nxb7 (l249, x250)) else (nxb7 (l296, x297))) else (nxb7 (l249, x250))
def go_law10_EditsOnce.b1 (i7 : Nat) (a7 : law10Step) : (List apiRef × Int) → (List apiRef × Int → Option Bool) → Option Bool :=
  fun (l249, x250) nxb7 => (go_law10_Step_Edit a7).bind fun y299 => (go_edits_Do (⟨l249, x250⟩ : editsSet) y299).bind fun y303 => go_law10_EditsOnce.j1 l249 x250 a7 nxb7 y303.2 y303.1.Refs y303.1.Floor
def go_law10_EditsOnce (p0 : List law10Step) (p1 : UInt8) : Option Bool :=
  (go_law10_awake).bind fun y3 => if y3 then ((cutI p0 0 (min (p0.length : Int) 30)).bind fun l6 => forL (go_law10_EditsOnce.b1) (fun (l249, x250) => (go_edits_Do (⟨l249, x250⟩ : editsSet) (⟨[(⟨[122, 122], 2, (p1.toNat : Int), (p1.toNat : Int)⟩ : apiRef)], [], x250⟩ : editsEdit)).bind fun y330 => (go_edits_Do y330.1 (⟨[(⟨[122, 122], 2, (p1.toNat : Int), (p1.toNat : Int)⟩ : apiRef)], [], y330.1.Floor⟩ : editsEdit)).bind fun y338 => (go_edits_Do y330.1 (⟨[], [[122, 122]], y330.1.Floor⟩ : editsEdit)).bind fun y346 => (go_edits_Do y346.1 (⟨[], [[122, 122]], y346.1.Floor⟩ : editsEdit)).bind fun y354 => if y330.2 = 0 then (if y338.2 = 5 then (if y346.2 = 0 then (if y354.2 = 6 then (if (y346.1.Refs.length : Int) = (l249.length : Int) then ((go_edits_Find y330.1 [122, 122]).bind fun y363 => if y363 = (l249.length : Int) then ((go_edits_Find y346.1 [122, 122]).bind fun y365 => some (decide (y365 = (-1)))) else (some false)) else (some false)) else (some false)) else (some false)) else (some false)) else (some false)) 0 l6 ([], 0)) else (some false)
set_option maxRecDepth 100000 in
set_option maxHeartbeats 4000000 in
theorem go_law10_EditsOnce.walk {w0 w : World} {X : List Res} {z0 : Zp} {p0 : List law10Step} {A1 : Option Addr} {c1 : Nat} {p1 : UInt8} {r : Bool} (hst : Ht w0 (frz z0 :: X) w) (f1 : Sl tlaw10Step z0 A1 c1 p0) (hf : go_law10_EditsOnce p0 p1 = some r) :
    Calls Try.prog 5 #[.slice A1 p0.length c1, vu8 p1] w fun e w' => ∃ (z' : Zp), e = .returned (vb r) ∧ Le z0 z' ∧ Ht w0 (frz z' :: X) w' := by
  refine calls_np Try.func5 rfl rfl ?_
  have hle0 := Le.refl z0
  unfold go_law10_EditsOnce at hf
  refine Run.seq ?_
  refine Run.region ?_
  refine Ops.ex (Ex.assign rfl) rfl rfl rfl ?_
  refine Ops.nil ?_
  refine Run.seq ?_
  refine Run.seq ?_
  refine Run.region ?_
  obtain ⟨y3, hy3, hf⟩ := bnd hf
  refine Ops.call rfl rfl Try.func11 (by kernel_rfl) (by kernel_rfl) rfl (go_law10_awake.walk (hst := hst) (hf := hy3)) ?_
  rintro _ w3 ⟨z3, rfl, hz3, hst3⟩
  refine ⟨_, rfl, ?_⟩
  replace f1 := f1.mono hz3
  replace hle0 := hle0.trans hz3
  refine Ops.ex (Ex.not rfl) rfl rfl rfl ?_
  refine Ops.nil ?_
  refine Run.cond rfl (fun hc => ?_) (fun hc => ?_)
  · replace hf := ifFb (bn_T hc) hf
    refine Run.seq ?_
    refine Run.region ?_
    refine Ops.ex (Ex.assign rfl) rfl rfl rfl ?_
    refine Ops.nil ?_
    obtain rfl := Option.some.inj hf
    exact Run.retV [vb false] rfl ⟨rfl, trivial⟩ ⟨z3, rfl, hle0, hst3⟩
  · replace hf := ifTb (bn_F hc) hf
    refine Run.skip ?_
    refine Run.seq ?_
    refine Run.region ?_
    refine Ops.allocF [.slice none 0 0, vi 0] hst3 zr38 rfl rfl (fun g5 w5 hst5 => ?_)
    refine Ops.nil ?_
    refine Run.seq ?_
    refine Run.seq ?_
    refine Run.region ?_
    refine Ops.ex (Ex.move rfl) rfl rfl rfl ?_
    refine Ops.ex (Ex.move rfl) rfl rfl rfl ?_
    refine Ops.ex (Ex.len' rfl rfl rfl Try.underlying36) rfl rfl rfl ?_
    refine Ops.ex (Ex.min2 rfl rfl rfl) rfl rfl rfl ?_
    obtain ⟨l6, hy6, hf⟩ := bnd hf
    obtain ⟨A6, c6, hA6, hB6, f6⟩ := SlH.sub f1.toH hy6
    replace f6 := f6.toS
    refine Ops.ex (Ex.subA hA6 hB6 hy6 rfl rfl Try.underlying36 sz32 rfl rfl) rfl rfl rfl ?_
    refine Ops.ex (Ex.len' rfl rfl rfl Try.underlying36) rfl rfl rfl ?_
    refine Ops.ex (Ex.move rfl) rfl rfl rfl ?_
    refine Ops.nil ?_
    refine Run.block ?_
    have hc7 := f6.cap
    have hm8 := Le.refl z3
    refine Run.sub (e' := [(1, vu8 p1), (5, .pointer (some ⟨g5, 0, none⟩)), (25, .slice A6 l6.length c6), (26, vi (l6.length : Int)), (27, vi ((0 : Nat) : Int))]) (subB_spec ⟨rfl, rfl, rfl, rfl, rfl, trivial⟩) ?_
    refine Run.loop (fun mb7 => (fun e' w' => ∃ (i7 : Nat) (l249 : List apiRef) (x250 : Int) (A249 : Option Addr) (c249 : Nat) (z248 : Zp), mb7 = l6.length - i7 ∧ i7 ≤ l6.length ∧ forL (go_law10_EditsOnce.b1) (fun (l249, x250) => (go_edits_Do (⟨l249, x250⟩ : editsSet) (⟨[(⟨[122, 122], 2, (p1.toNat : Int), (p1.toNat : Int)⟩ : apiRef)], [], x250⟩ : editsEdit)).bind fun y330 => (go_edits_Do y330.1 (⟨[(⟨[122, 122], 2, (p1.toNat : Int), (p1.toNat : Int)⟩ : apiRef)], [], y330.1.Floor⟩ : editsEdit)).bind fun y338 => (go_edits_Do y330.1 (⟨[], [[122, 122]], y330.1.Floor⟩ : editsEdit)).bind fun y346 => (go_edits_Do y346.1 (⟨[], [[122, 122]], y346.1.Floor⟩ : editsEdit)).bind fun y354 => if y330.2 = 0 then (if y338.2 = 5 then (if y346.2 = 0 then (if y354.2 = 6 then (if (y346.1.Refs.length : Int) = (l249.length : Int) then ((go_edits_Find y330.1 [122, 122]).bind fun y363 => if y363 = (l249.length : Int) then ((go_edits_Find y346.1 [122, 122]).bind fun y365 => some (decide (y365 = (-1)))) else (some false)) else (some false)) else (some false)) else (some false)) else (some false)) else (some false)) i7 (l6.drop i7) (l249, x250) = some r ∧ e' = [(1, vu8 p1), (5, .pointer (some ⟨g5, 0, none⟩)), (25, .slice A6 l6.length c6), (26, vi (l6.length : Int)), (27, vi (i7 : Int))] ∧ Le z3 z248 ∧ Le z0 z248 ∧ Sl tapiRef z248 A249 c249 l249 ∧ Ht w0 (frz z248 :: (blk g5 [.slice A249 l249.length c249, vi x250] 38) :: X) w')) l6.length ⟨0, [], 0, none, 0, z3, rfl, Nat.zero_le _, hf, rfl, hm8, hle0, (Sl.nil _ _), hst5⟩ ?_
    rintro _ e' w251 ⟨i7, l249, x250, A249, c249, z248, rfl, hi7, hf, rfl, hz251, hy251_0, f249, hst251⟩
    replace f6 := f6.mono hz251
    refine Run.seq ?_
    refine Run.region ?_
    refine Ops.ex (Ex.lss rfl rfl) rfl rfl rfl ?_
    refine Ops.nil ?_
    refine Run.seq ?_
    refine Run.cond rfl (fun hc => ?_) (fun hc => ?_)
    · have hl7 := lt_of_dec hc
      obtain ⟨a7, nxb7, ha7, hnxb7, hf⟩ := forL_in hf hl7
      unfold go_law10_EditsOnce.b1 at hf
      try dsimp only at hf
      refine Run.skip ?_
      refine Run.seq ?_
      refine Run.block ?_
      refine Run.seq ?_
      refine Run.region ?_
      obtain ⟨g260, p260, o260, cs260, hA260, ho260, hr260, f260⟩ := SlH.elem f6.toH (atI_nat ha7)
      obtain ⟨A252, c252, A253, c253, rfl, f252, f253⟩ := hr260
      refine Ops.ex (Ex.ixA hA260 ho260 (atI_nat ha7) rfl rfl rfl Try.underlying36 sz32) rfl rfl rfl ?_
      refine Ops.loadAgg [.slice A252 a7.Add.length c252, .slice A253 a7.Drop.length c253, vu8 a7.Floor, vb a7.Odd, vs a7.Any.Name, vi a7.Any.Kind, vi a7.Any.From, vi a7.Any.To] rfl Try.underlying32 rfl sz32 rfl (cells_of_zc rfl (f260.mono hst251.le)) rfl ?_
      refine Ops.allocF [.slice none 0 0, .slice none 0 0, vu8 0, vb false, vs [], vi 0, vi 0, vi 0] hst251 zr32 rfl rfl (fun g261 w261 hst261 => ?_)
      refine Ops.store 1 [.slice A252 a7.Add.length c252, .slice A253 a7.Drop.length c253, vu8 a7.Floor, vb a7.Odd, vs a7.Any.Name, vi a7.Any.Kind, vi a7.Any.From, vi a7.Any.To] hst261 rfl rfl rfl rfl sz32 rfl (by simp [Value.oneCell']) (by simp) (fun w262 hst262 => ?_)
      refine Ops.nil ?_
      refine Run.seq ?_
      have hm292 := Le.refl z248
      apply Run.jn (fun e' w' => ∃ (x295 : Int) (l296 : List apiRef) (x297 : Int) (g294 : Nat) (A296 : Option Addr) (c296 : Nat) (z293 : Zp), go_law10_EditsOnce.j1 l249 x250 a7 nxb7 x295 l296 x297 = some r ∧ e' = [(1, vu8 p1), (5, .pointer (some ⟨g5, 0, none⟩)), (7, .pointer (some ⟨g261, 0, none⟩)), (8, .pointer (some ⟨g294, 0, none⟩)), (9, vi x295), (25, .slice A6 l6.length c6), (26, vi (l6.length : Int)), (27, vi (i7 : Int))] ∧ Le z248 z293 ∧ Le z0 z293 ∧ Le z3 z293 ∧ Sl tapiRef z293 A296 c296 l296 ∧ Ht w0 (frz z293 :: (blk g261 [.slice A252 a7.Add.length c252, .slice A253 a7.Drop.length c253, vu8 a7.Floor, vb a7.Odd, vs a7.Any.Name, vi a7.Any.Kind, vi a7.Any.From, vi a7.Any.To] 32) :: (blk g5 [.slice A249 l249.length c249, vi x250] 38) :: (blk g294 [.slice A296 l296.length c296, vi x297] 38) :: X) w')
      · intro hj263
        refine Run.drawH [([], fun w => ∃ ζ Y, Le z248 ζ ∧ Ht w0 (frz ζ :: (blk g261 [.slice A252 a7.Add.length c252, .slice A253 a7.Drop.length c253, vu8 a7.Floor, vb a7.Odd, vs a7.Any.Name, vi a7.Any.Kind, vi a7.Any.From, vi a7.Any.To] 32) :: (blk g5 [.slice A249 l249.length c249, vi x250] 38) :: Y) w)] (by kernel_rfl) hst262 (fun w298 hst298 => ?_)
        have hS0 := (⟨_, _, (Le.refl _), (St.up (St.up (St.up hst298 2 rfl) 2 rfl) 2 rfl)⟩ : (fun w => ∃ ζ Y, Le z248 ζ ∧ Ht w0 (frz ζ :: (blk g261 [.slice A252 a7.Add.length c252, .slice A253 a7.Drop.length c253, vu8 a7.Floor, vb a7.Odd, vs a7.Any.Name, vi a7.Any.Kind, vi a7.Any.From, vi a7.Any.To] 32) :: (blk g5 [.slice A249 l249.length c249, vi x250] 38) :: Y) w) _)
        refine Any.take 0 0 rfl rfl rfl rfl rfl (by kernel_rfl) (fun _ _ _ _ _ h => h) (ExS.loadAgg [.slice A249 l249.length c249, vi x250] rfl Try.underlying38 rfl sz38 rfl (fun w hS => by obtain ⟨_, _, _, hs⟩ := hS; exact hs.cells (i := 2) rfl 0 2)) hS0 ?_
        refine Any.take 0 1 rfl rfl rfl rfl rfl (by kernel_rfl) (fun _ _ _ _ _ h => h) (ExS.loadAgg [.slice A252 a7.Add.length c252, .slice A253 a7.Drop.length c253, vu8 a7.Floor, vb a7.Odd, vs a7.Any.Name, vi a7.Any.Kind, vi a7.Any.From, vi a7.Any.To] rfl Try.underlying32 rfl sz32 rfl (fun w hS => by obtain ⟨_, _, _, hs⟩ := hS; exact hs.cells (i := 1) rfl 0 8)) hS0 ?_
        refine Any.all [2, 7] (by kernel_rfl) rfl (fun i hi => ?_)
        simp only [List.mem_cons, List.not_mem_nil, or_false] at hi
        rcases hi with rfl | rfl
        · skip
          obtain ⟨y299, hy299, hf⟩ := bnd hf
          refine ⟨_, rfl, rfl, One.of_ops rfl ?_⟩
          refine Ops.call rfl rfl Try.func12 (by kernel_rfl) (by kernel_rfl) rfl (go_law10_Step_Edit.walk (p0 := a7) (hst := hst298) (f1 := f252) (f2 := f253) (hf := hy299)) ?_
          rintro _ w299 ⟨z299, A300, c300, A301, c301, rfl, hz299, f300, f301, hst299⟩
          refine ⟨_, rfl, Ops.stop ?_⟩
          replace f6 := f6.mono hz299; replace f260 := f260.mono hz299; replace f252 := f252.mono hz299; replace f253 := f253.mono hz299; replace f249 := f249.mono hz299
          replace hy251_0 := hy251_0.trans hz299
          replace hz251 := hz251.trans hz299
          replace hm292 := hm292.trans hz299
          have hS0 := (⟨_, _, hm292, (St.up (St.up (St.up hst299 2 rfl) 2 rfl) 2 rfl)⟩ : (fun w => ∃ ζ Y, Le z248 ζ ∧ Ht w0 (frz ζ :: (blk g261 [.slice A252 a7.Add.length c252, .slice A253 a7.Drop.length c253, vu8 a7.Floor, vb a7.Odd, vs a7.Any.Name, vi a7.Any.Kind, vi a7.Any.From, vi a7.Any.To] 32) :: (blk g5 [.slice A249 l249.length c249, vi x250] 38) :: Y) w) _)
          refine ⟨⟨.inr (fun _ => hS0), trivial⟩, ?_⟩
          refine Any.all [3, 7] (by kernel_rfl) rfl (fun i hi => ?_)
          simp only [List.mem_cons, List.not_mem_nil, or_false] at hi
          rcases hi with rfl | rfl
          · skip
            obtain ⟨y303, hy303, hf⟩ := bnd hf
            refine ⟨_, rfl, rfl, One.of_ops rfl ?_⟩
            refine Ops.call rfl rfl Try.func15 (by kernel_rfl) (by kernel_rfl) rfl (go_edits_Do.walk (p0 := (⟨l249, x250⟩ : editsSet)) (p1 := y299) (hst := hst299) (f1 := f249) (f3 := f300) (f4 := f301) (hf := hy303)) ?_
            rintro _ w303 ⟨z303, A304, c304, rfl, hz303, f304, hst303⟩
            refine ⟨_, rfl, Ops.stop ?_⟩
            replace f6 := f6.mono hz303; replace f260 := f260.mono hz303; replace f252 := f252.mono hz303; replace f253 := f253.mono hz303; replace f249 := f249.mono hz303; replace f300 := f300.mono hz303; replace f301 := f301.mono hz303
            replace hy251_0 := hy251_0.trans hz303
            replace hz251 := hz251.trans hz303
            replace hm292 := hm292.trans hz303
            have hS0 := (⟨_, _, hm292, (St.up (St.up (St.up hst303 2 rfl) 2 rfl) 2 rfl)⟩ : (fun w => ∃ ζ Y, Le z248 ζ ∧ Ht w0 (frz ζ :: (blk g261 [.slice A252 a7.Add.length c252, .slice A253 a7.Drop.length c253, vu8 a7.Floor, vb a7.Odd, vs a7.Any.Name, vi a7.Any.Kind, vi a7.Any.From, vi a7.Any.To] 32) :: (blk g5 [.slice A249 l249.length c249, vi x250] 38) :: Y) w) _)
            refine ⟨⟨.inr (fun _ => hS0), trivial⟩, ?_⟩
            refine Any.takeE 4 rfl rfl rfl rfl (by kernel_rfl) (fun _ _ _ _ _ h => h) ((Ex.move rfl).s) ?_
            refine Any.takeE 5 rfl rfl rfl rfl (by kernel_rfl) (fun _ _ _ _ _ h => h) ((Ex.extract rfl rfl).s) ?_
            refine Any.takeE 6 rfl rfl rfl rfl (by kernel_rfl) (fun _ _ _ _ _ h => h) ((Ex.extract rfl rfl).s) ?_
            refine Any.one 7 (by kernel_rfl) rfl rfl (One.of_ops rfl ?_)
            refine Ops.allocF [.slice none 0 0, vi 0] hst303 zr38 rfl rfl (fun g307 w307 hst307 => Ops.stop ?_)
            have hS0 := (⟨_, _, hm292, (St.up (St.up (St.up hst307 3 rfl) 3 rfl) 2 rfl)⟩ : (fun w => ∃ ζ Y, Le z248 ζ ∧ Ht w0 (frz ζ :: (blk g261 [.slice A252 a7.Add.length c252, .slice A253 a7.Drop.length c253, vu8 a7.Floor, vb a7.Odd, vs a7.Any.Name, vi a7.Any.Kind, vi a7.Any.From, vi a7.Any.To] 32) :: (blk g5 [.slice A249 l249.length c249, vi x250] 38) :: Y) w) _)
            refine ⟨⟨.inr (fun _ => hS0), trivial⟩, ?_⟩
            refine Any.one 8 (by kernel_rfl) rfl rfl (One.of_ops rfl ?_)
            refine Ops.store 1 [.slice A304 y303.1.Refs.length c304, vi y303.1.Floor] hst307 rfl rfl rfl rfl sz38 rfl (by simp [Value.oneCell']) (by simp) (fun w308 hst308 => Ops.stop ?_)
            have hS0 := (⟨_, _, hm292, (St.up (St.up (St.up hst308 3 rfl) 3 rfl) 2 rfl)⟩ : (fun w => ∃ ζ Y, Le z248 ζ ∧ Ht w0 (frz ζ :: (blk g261 [.slice A252 a7.Add.length c252, .slice A253 a7.Drop.length c253, vu8 a7.Floor, vb a7.Odd, vs a7.Any.Name, vi a7.Any.Kind, vi a7.Any.From, vi a7.Any.To] 32) :: (blk g5 [.slice A249 l249.length c249, vi x250] 38) :: Y) w) _)
            refine ⟨⟨.inr (fun _ => hS0), trivial⟩, ?_⟩
            refine Any.takeE 9 rfl rfl rfl rfl (by kernel_rfl) (fun _ _ _ _ _ h => h) ((Ex.assign rfl).s) ?_
            refine Any.done (by kernel_rfl) ?_
            exact Run.sub (by exact subB_spec ⟨rfl, rfl, rfl, rfl, rfl, rfl, rfl, rfl, trivial⟩) (hj263 _ _ ⟨y303.2, y303.1.Refs, y303.1.Floor, g307, A304, c304, z303, hf, rfl, hm292, hy251_0, hz251, f304, (St.up (St.up (St.up (St.up hst308 1 rfl) 3 rfl) 3 rfl) 3 rfl)⟩)
          · skip
            refine ⟨_, rfl, rfl, One.of_ops rfl ?_⟩
            refine Ops.allocF [.slice none 0 0, vi 0] hst299 zr38 rfl rfl (fun g309 w309 hst309 => Ops.stop ?_)
            have hS0 := (⟨_, _, hm292, (St.up (St.up (St.up hst309 3 rfl) 3 rfl) 2 rfl)⟩ : (fun w => ∃ ζ Y, Le z248 ζ ∧ Ht w0 (frz ζ :: (blk g261 [.slice A252 a7.Add.length c252, .slice A253 a7.Drop.length c253, vu8 a7.Floor, vb a7.Odd, vs a7.Any.Name, vi a7.Any.Kind, vi a7.Any.From, vi a7.Any.To] 32) :: (blk g5 [.slice A249 l249.length c249, vi x250] 38) :: Y) w) _)
            refine ⟨⟨.inr (fun _ => hS0), trivial⟩, ?_⟩
            obtain ⟨y310, hy310, hf⟩ := bnd hf
            refine Any.one 3 (by kernel_rfl) rfl rfl (One.of_ops rfl ?_)
            refine Ops.call rfl rfl Try.func15 (by kernel_rfl) (by kernel_rfl) rfl (go_edits_Do.walk (p0 := (⟨l249, x250⟩ : editsSet)) (p1 := y299) (hst := hst309) (f1 := f249) (f3 := f300) (f4 := f301) (hf := hy310)) ?_
            rintro _ w310 ⟨z310, A311, c311, rfl, hz310, f311, hst310⟩
            refine ⟨_, rfl, Ops.stop ?_⟩
            replace f6 := f6.mono hz310; replace f260 := f260.mono hz310; replace f252 := f252.mono hz310; replace f253 := f253.mono hz310; replace f249 := f249.mono hz310; replace f300 := f300.mono hz310; replace f301 := f301.mono hz310
            replace hy251_0 := hy251_0.trans hz310
            replace hz251 := hz251.trans hz310
            replace hm292 := hm292.trans hz310
            have hS0 := (⟨_, _, hm292, (St.up (St.up (St.up hst310 3 rfl) 3 rfl) 2 rfl)⟩ : (fun w => ∃ ζ Y, Le z248 ζ ∧ Ht w0 (frz ζ :: (blk g261 [.slice A252 a7.Add.length c252, .slice A253 a7.Drop.length c253, vu8 a7.Floor, vb a7.Odd, vs a7.Any.Name, vi a7.Any.Kind, vi a7.Any.From, vi a7.Any.To] 32) :: (blk g5 [.slice A249 l249.length c249, vi x250] 38) :: Y) w) _)
            refine ⟨⟨.inr (fun _ => hS0), trivial⟩, ?_⟩
            refine Any.takeE 4 rfl rfl rfl rfl (by kernel_rfl) (fun _ _ _ _ _ h => h) ((Ex.move rfl).s) ?_
            refine Any.takeE 5 rfl rfl rfl rfl (by kernel_rfl) (fun _ _ _ _ _ h => h) ((Ex.extract rfl rfl).s) ?_
            refine Any.takeE 6 rfl rfl rfl rfl (by kernel_rfl) (fun _ _ _ _ _ h => h) ((Ex.extract rfl rfl).s) ?_
            refine Any.one 8 (by kernel_rfl) rfl rfl (One.of_ops rfl ?_)
            refine Ops.store 1 [.slice A311 y310.1.Refs.length c311, vi y310.1.Floor] hst310 rfl rfl rfl rfl sz38 rfl (by simp [Value.oneCell']) (by simp) (fun w314 hst314 => Ops.stop ?_)
            have hS0 := (⟨_, _, hm292, (St.up (St.up (St.up hst314 3 rfl) 3 rfl) 2 rfl)⟩ : (fun w => ∃ ζ Y, Le z248 ζ ∧ Ht w0 (frz ζ :: (blk g261 [.slice A252 a7.Add.length c252, .slice A253 a7.Drop.length c253, vu8 a7.Floor, vb a7.Odd, vs a7.Any.Name, vi a7.Any.Kind, vi a7.Any.From, vi a7.Any.To] 32) :: (blk g5 [.slice A249 l249.length c249, vi x250] 38) :: Y) w) _)
            refine ⟨⟨.inr (fun _ => hS0), trivial⟩, ?_⟩
            refine Any.takeE 9 rfl rfl rfl rfl (by kernel_rfl) (fun _ _ _ _ _ h => h) ((Ex.assign rfl).s) ?_
            refine Any.done (by kernel_rfl) ?_
            exact Run.sub (by exact subB_spec ⟨rfl, rfl, rfl, rfl, rfl, rfl, rfl, rfl, trivial⟩) (hj263 _ _ ⟨y310.2, y310.1.Refs, y310.1.Floor, g309, A311, c311, z310, hf, rfl, hm292, hy251_0, hz251, f311, (St.up (St.up (St.up (St.up hst314 1 rfl) 3 rfl) 3 rfl) 3 rfl)⟩)
        · skip
          refine ⟨_, rfl, rfl, One.of_ops rfl ?_⟩
          refine Ops.allocF [.slice none 0 0, vi 0] hst298 zr38 rfl rfl (fun g315 w315 hst315 => Ops.stop ?_)
          have hS0 := (⟨_, _, (Le.refl _), (St.up (St.up (St.up hst315 3 rfl) 3 rfl) 2 rfl)⟩ : (fun w => ∃ ζ Y, Le z248 ζ ∧ Ht w0 (frz ζ :: (blk g261 [.slice A252 a7.Add.length c252, .slice A253 a7.Drop.length c253, vu8 a7.Floor, vb a7.Odd, vs a7.Any.Name, vi a7.Any.Kind, vi a7.Any.From, vi a7.Any.To] 32) :: (blk g5 [.slice A249 l249.length c249, vi x250] 38) :: Y) w) _)
          refine ⟨⟨.inr (fun _ => hS0), trivial⟩, ?_⟩
          obtain ⟨y316, hy316, hf⟩ := bnd hf
          refine Any.one 2 (by kernel_rfl) rfl rfl (One.of_ops rfl ?_)
          refine Ops.call rfl rfl Try.func12 (by kernel_rfl) (by kernel_rfl) rfl (go_law10_Step_Edit.walk (p0 := a7) (hst := hst315) (f1 := f252) (f2 := f253) (hf := hy316)) ?_
          rintro _ w316 ⟨z316, A317, c317, A318, c318, rfl, hz316, f317, f318, hst316⟩
          refine ⟨_, rfl, Ops.stop ?_⟩
          replace f6 := f6.mono hz316; replace f260 := f260.mono hz316; replace f252 := f252.mono hz316; replace f253 := f253.mono hz316; replace f249 := f249.mono hz316
          replace hy251_0 := hy251_0.trans hz316
          replace hz251 := hz251.trans hz316
          replace hm292 := hm292.trans hz316
          have hS0 := (⟨_, _, hm292, (St.up (St.up (St.up hst316 3 rfl) 3 rfl) 2 rfl)⟩ : (fun w => ∃ ζ Y, Le z248 ζ ∧ Ht w0 (frz ζ :: (blk g261 [.slice A252 a7.Add.length c252, .slice A253 a7.Drop.length c253, vu8 a7.Floor, vb a7.Odd, vs a7.Any.Name, vi a7.Any.Kind, vi a7.Any.From, vi a7.Any.To] 32) :: (blk g5 [.slice A249 l249.length c249, vi x250] 38) :: Y) w) _)
          refine ⟨⟨.inr (fun _ => hS0), trivial⟩, ?_⟩
          obtain ⟨y320, hy320, hf⟩ := bnd hf
          refine Any.one 3 (by kernel_rfl) rfl rfl (One.of_ops rfl ?_)
          refine Ops.call rfl rfl Try.func15 (by kernel_rfl) (by kernel_rfl) rfl (go_edits_Do.walk (p0 := (⟨l249, x250⟩ : editsSet)) (p1 := y316) (hst := hst316) (f1 := f249) (f3 := f317) (f4 := f318) (hf := hy320)) ?_
          rintro _ w320 ⟨z320, A321, c321, rfl, hz320, f321, hst320⟩
          refine ⟨_, rfl, Ops.stop ?_⟩
          replace f6 := f6.mono hz320; replace f260 := f260.mono hz320; replace f252 := f252.mono hz320; replace f253 := f253.mono hz320; replace f249 := f249.mono hz320; replace f317 := f317.mono hz320; replace f318 := f318.mono hz320
          replace hy251_0 := hy251_0.trans hz320
          replace hz251 := hz251.trans hz320
          replace hm292 := hm292.trans hz320
          have hS0 := (⟨_, _, hm292, (St.up (St.up (St.up hst320 3 rfl) 3 rfl) 2 rfl)⟩ : (fun w => ∃ ζ Y, Le z248 ζ ∧ Ht w0 (frz ζ :: (blk g261 [.slice A252 a7.Add.length c252, .slice A253 a7.Drop.length c253, vu8 a7.Floor, vb a7.Odd, vs a7.Any.Name, vi a7.Any.Kind, vi a7.Any.From, vi a7.Any.To] 32) :: (blk g5 [.slice A249 l249.length c249, vi x250] 38) :: Y) w) _)
          refine ⟨⟨.inr (fun _ => hS0), trivial⟩, ?_⟩
          refine Any.takeE 4 rfl rfl rfl rfl (by kernel_rfl) (fun _ _ _ _ _ h => h) ((Ex.move rfl).s) ?_
          refine Any.takeE 5 rfl rfl rfl rfl (by kernel_rfl) (fun _ _ _ _ _ h => h) ((Ex.extract rfl rfl).s) ?_
          refine Any.takeE 6 rfl rfl rfl rfl (by kernel_rfl) (fun _ _ _ _ _ h => h) ((Ex.extract rfl rfl).s) ?_
          refine Any.one 8 (by kernel_rfl) rfl rfl (One.of_ops rfl ?_)
          refine Ops.store 1 [.slice A321 y320.1.Refs.length c321, vi y320.1.Floor] hst320 rfl rfl rfl rfl sz38 rfl (by simp [Value.oneCell']) (by simp) (fun w324 hst324 => Ops.stop ?_)
          have hS0 := (⟨_, _, hm292, (St.up (St.up (St.up hst324 3 rfl) 3 rfl) 2 rfl)⟩ : (fun w => ∃ ζ Y, Le z248 ζ ∧ Ht w0 (frz ζ :: (blk g261 [.slice A252 a7.Add.length c252, .slice A253 a7.Drop.length c253, vu8 a7.Floor, vb a7.Odd, vs a7.Any.Name, vi a7.Any.Kind, vi a7.Any.From, vi a7.Any.To] 32) :: (blk g5 [.slice A249 l249.length c249, vi x250] 38) :: Y) w) _)
          refine ⟨⟨.inr (fun _ => hS0), trivial⟩, ?_⟩
          refine Any.takeE 9 rfl rfl rfl rfl (by kernel_rfl) (fun _ _ _ _ _ h => h) ((Ex.assign rfl).s) ?_
          refine Any.done (by kernel_rfl) ?_
          exact Run.sub (by exact subB_spec ⟨rfl, rfl, rfl, rfl, rfl, rfl, rfl, rfl, trivial⟩) (hj263 _ _ ⟨y320.2, y320.1.Refs, y320.1.Floor, g315, A321, c321, z320, hf, rfl, hm292, hy251_0, hz251, f321, (St.up (St.up (St.up (St.up hst324 1 rfl) 3 rfl) 3 rfl) 3 rfl)⟩)
      · rintro e' w325 ⟨x295, l296, x297, g294, A296, c296, z293, hf, rfl, hz325, hy325_0, hy325_1, f296, hst325⟩
        replace f6 := f6.mono hz325; replace f252 := f252.mono hz325; replace f253 := f253.mono hz325; replace f249 := f249.mono hz325
        unfold go_law10_EditsOnce.j1 at hf
        refine Run.seq ?_
        refine Run.region ?_
        refine Ops.ex (Ex.move rfl) rfl rfl rfl ?_
        refine Ops.ex (Ex.eqlI rfl rfl) rfl rfl rfl ?_
        refine Ops.ex (Ex.move rfl) rfl rfl rfl ?_
        refine Ops.case 40 rfl (fun hc => ?_) (fun hc => ?_)
        · replace hf := ifT (dec_T hc) hf
          refine Ops.on rfl ?_
          refine Ops.ex (Ex.fieldAddr rfl Try.underlying32 rfl sz4) rfl rfl rfl ?_
          refine Ops.on rfl ?_
          refine Ops.load rfl Try.underlying4 rfl (hst325.cell (i := 1) rfl rfl) rfl ?_
          refine Ops.on rfl ?_
          refine Ops.ex (Ex.not rfl) rfl rfl rfl ?_
          refine Ops.ex (Ex.pickT rfl rfl) rfl rfl rfl ?_
          refine Ops.nil ?_
          refine Run.cond rfl (fun hc => ?_) (fun hc => ?_)
          · replace hf := ifFb (bn_T hc) hf
            refine Run.region ?_
            refine Ops.loadAgg _ rfl Try.underlying38 rfl sz38 rfl (hst325.cells (i := 3) rfl 0 2) rfl ?_
            refine Ops.store 2 [.slice A296 l296.length c296, vi x297] hst325 rfl rfl rfl rfl sz38 rfl (by simp [Value.oneCell']) (by simp) (fun w326 hst326 => ?_)
            refine Ops.nil ?_
            refine Run.endBlk ?_
            refine Run.region ?_
            refine Ops.ex (Ex.add rfl rfl) rfl rfl rfl ?_
            refine Ops.ex (Ex.move rfl) rfl rfl rfl ?_
            refine Ops.nil ?_
            refine Run.re 27 rfl (congrArg vi (wr_succ' hl7 hc7)) ?_
            exact Run.sub (by exact subB_spec ⟨rfl, rfl, rfl, rfl, rfl, trivial⟩) (Run.stop ⟨l6.length - (i7 + 1), by omega, i7 + 1, l296, x297, A296, c296, z293, rfl, by omega, (hnxb7 _).symm.trans hf, rfl, hy325_1, hy325_0, f296, (St.forget (St.forget hst326 3) 1)⟩)
          · replace hf := ifTb (bn_F hc) hf
            refine Run.skip ?_
            refine Run.endBlk ?_
            refine Run.region ?_
            refine Ops.ex (Ex.add rfl rfl) rfl rfl rfl ?_
            refine Ops.ex (Ex.move rfl) rfl rfl rfl ?_
            refine Ops.nil ?_
            refine Run.re 27 rfl (congrArg vi (wr_succ' hl7 hc7)) ?_
            exact Run.sub (by exact subB_spec ⟨rfl, rfl, rfl, rfl, rfl, trivial⟩) (Run.stop ⟨l6.length - (i7 + 1), by omega, i7 + 1, l249, x250, A249, c249, z293, rfl, by omega, (hnxb7 _).symm.trans hf, rfl, hy325_1, hy325_0, f249, (St.forget (St.forget hst325 3) 1)⟩)
        · replace hf := ifF (dec_F hc) hf
          refine Ops.off rfl rfl ?_
          refine Ops.off rfl rfl ?_
          refine Ops.off rfl rfl ?_
          refine Ops.ex (Ex.pickF rfl rfl) rfl rfl rfl ?_
          refine Ops.nil ?_
          refine Run.condF rfl rfl ?_
          refine Run.skip ?_
          refine Run.endBlk ?_
          refine Run.region ?_
          refine Ops.ex (Ex.add rfl rfl) rfl rfl rfl ?_
          refine Ops.ex (Ex.move rfl) rfl rfl rfl ?_
          refine Ops.nil ?_
          refine Run.re 27 rfl (congrArg vi (wr_succ' hl7 hc7)) ?_
          exact Run.sub (by exact subB_spec ⟨rfl, rfl, rfl, rfl, rfl, trivial⟩) (Run.stop ⟨l6.length - (i7 + 1), by omega, i7 + 1, l249, x250, A249, c249, z293, rfl, by omega, (hnxb7 _).symm.trans hf, rfl, hy325_1, hy325_0, f249, (St.forget (St.forget hst325 3) 1)⟩)
    · replace hf := forL_out hf (nlt_of_dec hc)
      try dsimp only at hf
      refine Run.exit _ rfl ?_
      refine Run.seq ?_
      refine Run.region ?_
      refine Ops.ex (Ex.move rfl) rfl rfl rfl ?_
      refine Ops.ex (Ex.cu8 rfl Try.underlying5 Try.underlying3) rfl rfl rfl ?_
      refine Ops.ex (Ex.move rfl) rfl rfl rfl ?_
      refine Ops.ex (Ex.cu8 rfl Try.underlying5 Try.underlying3) rfl rfl rfl ?_
      refine Ops.ex (Ex.build [vs [122, 122], vi 2, vi (p1.toNat : Int), vi (p1.toNat : Int)] rfl Try.underlying24 zr24 (pl24 Try.underlying24) (by kernel_rfl)) rfl rfl rfl ?_
      refine Ops.allocF [vs [], vi 0, vi 0, vi 0] hst251 zr24 rfl rfl (fun g327 w327 hst327 => ?_)
      refine Ops.store 1 [vs [122, 122], vi 2, vi (p1.toNat : Int), vi (p1.toNat : Int)] hst327 rfl rfl rfl rfl sz24 rfl (by simp [Value.oneCell']) (by simp) (fun w328 hst328 => ?_)
      refine Ops.nil ?_
      refine Run.seq ?_
      refine Run.region ?_
      refine Ops.loadAgg _ rfl Try.underlying38 rfl sz38 rfl (hst328.cells (i := 2) rfl 0 2) rfl ?_
      refine Ops.loadAgg _ rfl Try.underlying24 rfl sz24 rfl (hst328.cells (i := 1) rfl 0 4) rfl ?_
      refine Ops.sliceF [vs [122, 122], vi 2, vi (p1.toNat : Int), vi (p1.toNat : Int)] hst328 rfl Try.underlying26 sz24 zr24 rfl rfl (by kernel_rfl) rfl (by simp [Value.oneCell']) rfl (fun A329 w329 hst329 => ?_)
      have f329 : Cs tapiRef z248 [vs [122, 122], vi 2, vi (p1.toNat : Int), vi (p1.toNat : Int)] [(⟨[122, 122], 2, (p1.toNat : Int), (p1.toNat : Int)⟩ : apiRef)] := (Cs.cons (c := [vs [122, 122], vi 2, vi (p1.toNat : Int), vi (p1.toNat : Int)]) rfl (Cs.nil _ _))
      refine Ops.ex (Ex.fieldAddr rfl Try.underlying38 rfl sz3) rfl rfl rfl ?_
      refine Ops.load rfl Try.underlying3 rfl (hst329.cell (i := 3) rfl rfl) rfl ?_
      refine Ops.ex (Ex.build [.slice A329 ([(⟨[122, 122], 2, (p1.toNat : Int), (p1.toNat : Int)⟩ : apiRef)]).length 1, .slice none 0 0, vi x250] rfl Try.underlying29 zr29 (pl29 Try.underlying29) (by kernel_rfl)) rfl rfl rfl ?_
      obtain ⟨z331, hz331, f331, hst331⟩ := St.freeze (τ := tapiRef) (xs := ([(⟨[122, 122], 2, (p1.toNat : Int), (p1.toNat : Int)⟩ : apiRef)])) hst329 f329 rfl
      replace f6 := f6.mono hz331; replace f249 := f249.mono hz331
      replace hy251_0 := hy251_0.trans hz331
      replace hz251 := hz251.trans hz331
      obtain ⟨y330, hy330, hf⟩ := bnd hf
      refine Ops.call rfl rfl Try.func15 (by kernel_rfl) (by kernel_rfl) rfl (go_edits_Do.walk (p0 := (⟨l249, x250⟩ : editsSet)) (p1 := (⟨[(⟨[122, 122], 2, (p1.toNat : Int), (p1.toNat : Int)⟩ : apiRef)], [], x250⟩ : editsEdit)) (hst := hst331) (f1 := f249) (f3 := f331) (f4 := Sl.nil _ _) (hf := hy330)) ?_
      rintro _ w330 ⟨z330, A332, c332, rfl, hz330, f332, hst330⟩
      refine ⟨_, rfl, ?_⟩
      replace f6 := f6.mono hz330; replace f249 := f249.mono hz330; replace f331 := f331.mono hz330
      replace hy251_0 := hy251_0.trans hz330
      replace hz251 := hz251.trans hz330
      refine Ops.ex (Ex.move rfl) rfl rfl rfl ?_
      refine Ops.ex (Ex.extract rfl rfl) rfl rfl rfl ?_
      refine Ops.ex (Ex.extract rfl rfl) rfl rfl rfl ?_
      refine Ops.allocF [.slice none 0 0, vi 0] hst330 zr38 rfl rfl (fun g335 w335 hst335 => ?_)
      refine Ops.store 1 [.slice A332 y330.1.Refs.length c332, vi y330.1.Floor] hst335 rfl rfl rfl rfl sz38 rfl (by simp [Value.oneCell']) (by simp) (fun w336 hst336 => ?_)
      refine Ops.ex (Ex.assign rfl) rfl rfl rfl ?_
      refine Ops.nil ?_
      refine Run.seq ?_
      refine Run.region ?_
      refine Ops.loadAgg _ rfl Try.underlying38 rfl sz38 rfl (hst336.cells (i := 1) rfl 0 2) rfl ?_
      refine Ops.loadAgg _ rfl Try.underlying24 rfl sz24 rfl (hst336.cells (i := 2) rfl 0 4) rfl ?_
      refine Ops.sliceF [vs [122, 122], vi 2, vi (p1.toNat : Int), vi (p1.toNat : Int)] hst336 rfl Try.underlying26 sz24 zr24 rfl rfl (by kernel_rfl) rfl (by simp [Value.oneCell']) rfl (fun A337 w337 hst337 => ?_)
      have f337 : Cs tapiRef z330 [vs [122, 122], vi 2, vi (p1.toNat : Int), vi (p1.toNat : Int)] [(⟨[122, 122], 2, (p1.toNat : Int), (p1.toNat : Int)⟩ : apiRef)] := (Cs.cons (c := [vs [122, 122], vi 2, vi (p1.toNat : Int), vi (p1.toNat : Int)]) rfl (Cs.nil _ _))
      refine Ops.ex (Ex.fieldAddr rfl Try.underlying38 rfl sz3) rfl rfl rfl ?_
      refine Ops.load rfl Try.underlying3 rfl (hst337.cell (i := 2) rfl rfl) rfl ?_
      refine Ops.ex (Ex.build [.slice A337 ([(⟨[122, 122], 2, (p1.toNat : Int), (p1.toNat : Int)⟩ : apiRef)]).length 1, .slice none 0 0, vi y330.1.Floor] rfl Try.underlying29 zr29 (pl29 Try.underlying29) (by kernel_rfl)) rfl rfl rfl ?_
      obtain ⟨z339, hz339, f339, hst339⟩ := St.freeze (τ := tapiRef) (xs := ([(⟨[122, 122], 2, (p1.toNat : Int), (p1.toNat : Int)⟩ : apiRef)])) hst337 f337 rfl
      replace f6 := f6.mono hz339; replace f249 := f249.mono hz339; replace f331 := f331.mono hz339; replace f332 := f332.mono hz339
      replace hy251_0 := hy251_0.trans hz339
      replace hz251 := hz251.trans hz339
      obtain ⟨y338, hy338, hf⟩ := bnd hf
      refine Ops.call rfl rfl Try.func15 (by kernel_rfl) (by kernel_rfl) rfl (go_edits_Do.walk (p0 := y330.1) (p1 := (⟨[(⟨[122, 122], 2, (p1.toNat : Int), (p1.toNat : Int)⟩ : apiRef)], [], y330.1.Floor⟩ : editsEdit)) (hst := hst339) (f1 := f332) (f3 := f339) (f4 := Sl.nil _ _) (hf := hy338)) ?_
      rintro _ w338 ⟨z338, A340, c340, rfl, hz338, f340, hst338⟩
      refine ⟨_, rfl, ?_⟩
      replace f6 := f6.mono hz338; replace f249 := f249.mono hz338; replace f331 := f331.mono hz338; replace f332 := f332.mono hz338; replace f339 := f339.mono hz338
      replace hy251_0 := hy251_0.trans hz338
      replace hz251 := hz251.trans hz338
      refine Ops.ex (Ex.move rfl) rfl rfl rfl ?_
      refine Ops.ex (Ex.extract rfl rfl) rfl rfl rfl ?_
      refine Ops.ex (Ex.extract rfl rfl) rfl rfl rfl ?_
      refine Ops.allocF [.slice none 0 0, vi 0] hst338 zr38 rfl rfl (fun g343 w343 hst343 => ?_)
      refine Ops.store 1 [.slice A340 y338.1.Refs.length c340, vi y338.1.Floor] hst343 rfl rfl rfl rfl sz38 rfl (by simp [Value.oneCell']) (by simp) (fun w344 hst344 => ?_)
      refine Ops.ex (Ex.assign rfl) rfl rfl rfl ?_
      refine Ops.nil ?_
      refine Run.seq ?_
      refine Run.region ?_
      refine Ops.loadAgg _ rfl Try.underlying38 rfl sz38 rfl (hst344.cells (i := 2) rfl 0 2) rfl ?_
      refine Ops.sliceF [vs [122, 122]] hst344 rfl Try.underlying27 sz9 zr9 rfl rfl (by kernel_rfl) rfl (by simp [Value.oneCell']) rfl (fun A345 w345 hst345 => ?_)
      have f345 : Cs tS z338 [vs [122, 122]] [[122, 122]] := (Cs.cons (c := [vs [122, 122]]) rfl (Cs.nil _ _))
      refine Ops.ex (Ex.fieldAddr rfl Try.underlying38 rfl sz3) rfl rfl rfl ?_
      refine Ops.load rfl Try.underlying3 rfl (hst345.cell (i := 3) rfl rfl) rfl ?_
      refine Ops.ex (Ex.build [.slice none 0 0, .slice A345 ([[122, 122]]).length 1, vi y330.1.Floor] rfl Try.underlying29 zr29 (pl29 Try.underlying29) (by kernel_rfl)) rfl rfl rfl ?_
      obtain ⟨z347, hz347, f347, hst347⟩ := St.freeze (τ := tS) (xs := ([[122, 122]])) hst345 f345 rfl
      replace f6 := f6.mono hz347; replace f249 := f249.mono hz347; replace f331 := f331.mono hz347; replace f332 := f332.mono hz347; replace f339 := f339.mono hz347; replace f340 := f340.mono hz347
      replace hy251_0 := hy251_0.trans hz347
      replace hz251 := hz251.trans hz347
      obtain ⟨y346, hy346, hf⟩ := bnd hf
      refine Ops.call rfl rfl Try.func15 (by kernel_rfl) (by kernel_rfl) rfl (go_edits_Do.walk (p0 := y330.1) (p1 := (⟨[], [[122, 122]], y330.1.Floor⟩ : editsEdit)) (hst := hst347) (f1 := f332) (f3 := Sl.nil _ _) (f4 := f347) (hf := hy346)) ?_
      rintro _ w346 ⟨z346, A348, c348, rfl, hz346, f348, hst346⟩
      refine ⟨_, rfl, ?_⟩
      replace f6 := f6.mono hz346; replace f249 := f249.mono hz346; replace f331 := f331.mono hz346; replace f332 := f332.mono hz346; replace f339 := f339.mono hz346; replace f340 := f340.mono hz346; replace f347 := f347.mono hz346
      replace hy251_0 := hy251_0.trans hz346
      replace hz251 := hz251.trans hz346
      refine Ops.ex (Ex.move rfl) rfl rfl rfl ?_
      refine Ops.ex (Ex.extract rfl rfl) rfl rfl rfl ?_
      refine Ops.ex (Ex.extract rfl rfl) rfl rfl rfl ?_
      refine Ops.allocF [.slice none 0 0, vi 0] hst346 zr38 rfl rfl (fun g351 w351 hst351 => ?_)
      refine Ops.store 1 [.slice A348 y346.1.Refs.length c348, vi y346.1.Floor] hst351 rfl rfl rfl rfl sz38 rfl (by simp [Value.oneCell']) (by simp) (fun w352 hst352 => ?_)
      refine Ops.ex (Ex.assign rfl) rfl rfl rfl ?_
      refine Ops.nil ?_
      refine Run.seq ?_
      refine Run.region ?_
      refine Ops.loadAgg _ rfl Try.underlying38 rfl sz38 rfl (hst352.cells (i := 1) rfl 0 2) rfl ?_
      refine Ops.sliceF [vs [122, 122]] hst352 rfl Try.underlying27 sz9 zr9 rfl rfl (by kernel_rfl) rfl (by simp [Value.oneCell']) rfl (fun A353 w353 hst353 => ?_)
      have f353 : Cs tS z346 [vs [122, 122]] [[122, 122]] := (Cs.cons (c := [vs [122, 122]]) rfl (Cs.nil _ _))
      refine Ops.ex (Ex.fieldAddr rfl Try.underlying38 rfl sz3) rfl rfl rfl ?_
      refine Ops.load rfl Try.underlying3 rfl (hst353.cell (i := 2) rfl rfl) rfl ?_
      refine Ops.ex (Ex.build [.slice none 0 0, .slice A353 ([[122, 122]]).length 1, vi y346.1.Floor] rfl Try.underlying29 zr29 (pl29 Try.underlying29) (by kernel_rfl)) rfl rfl rfl ?_
      obtain ⟨z355, hz355, f355, hst355⟩ := St.freeze (τ := tS) (xs := ([[122, 122]])) hst353 f353 rfl
      replace f6 := f6.mono hz355; replace f249 := f249.mono hz355; replace f331 := f331.mono hz355; replace f332 := f332.mono hz355; replace f339 := f339.mono hz355; replace f340 := f340.mono hz355; replace f347 := f347.mono hz355; replace f348 := f348.mono hz355
      replace hy251_0 := hy251_0.trans hz355
      replace hz251 := hz251.trans hz355
      obtain ⟨y354, hy354, hf⟩ := bnd hf
      refine Ops.call rfl rfl Try.func15 (by kernel_rfl) (by kernel_rfl) rfl (go_edits_Do.walk (p0 := y346.1) (p1 := (⟨[], [[122, 122]], y346.1.Floor⟩ : editsEdit)) (hst := hst355) (f1 := f348) (f3 := Sl.nil _ _) (f4 := f355) (hf := hy354)) ?_
      rintro _ w354 ⟨z354, A356, c356, rfl, hz354, f356, hst354⟩
      refine ⟨_, rfl, ?_⟩
      replace f6 := f6.mono hz354; replace f249 := f249.mono hz354; replace f331 := f331.mono hz354; replace f332 := f332.mono hz354; replace f339 := f339.mono hz354; replace f340 := f340.mono hz354; replace f347 := f347.mono hz354; replace f348 := f348.mono hz354; replace f355 := f355.mono hz354
      replace hy251_0 := hy251_0.trans hz354
      replace hz251 := hz251.trans hz354
      refine Ops.ex (Ex.move rfl) rfl rfl rfl ?_
      refine Ops.ex (Ex.extract rfl rfl) rfl rfl rfl ?_
      refine Ops.ex (Ex.extract rfl rfl) rfl rfl rfl ?_
      refine Ops.allocF [.slice none 0 0, vi 0] hst354 zr38 rfl rfl (fun g359 w359 hst359 => ?_)
      refine Ops.store 1 [.slice A356 y354.1.Refs.length c356, vi y354.1.Floor] hst359 rfl rfl rfl rfl sz38 rfl (by simp [Value.oneCell']) (by simp) (fun w360 hst360 => ?_)
      refine Ops.ex (Ex.assign rfl) rfl rfl rfl ?_
      refine Ops.nil ?_
      refine Run.seq ?_
      have hm362 := Le.refl z354
      refine Run.drawH [([], fun w => ∃ ζ Y, Le z354 ζ ∧ Ht w0 (frz ζ :: (blk g359 [.slice A356 y354.1.Refs.length c356, vi y354.1.Floor] 38) :: (blk g351 [.slice A348 y346.1.Refs.length c348, vi y346.1.Floor] 38) :: (blk g343 [.slice A340 y338.1.Refs.length c340, vi y338.1.Floor] 38) :: (blk g335 [.slice A332 y330.1.Refs.length c332, vi y330.1.Floor] 38) :: (blk g327 [vs [122, 122], vi 2, vi (p1.toNat : Int), vi (p1.toNat : Int)] 24) :: (blk g5 [.slice A249 l249.length c249, vi x250] 38) :: Y) w)] (by kernel_rfl) hst360 (fun w361 hst361 => ?_)
      have hS0 := (⟨_, _, (Le.refl _), (St.up (St.up (St.up (St.up (St.up (St.up (St.up hst361 6 rfl) 6 rfl) 6 rfl) 6 rfl) 6 rfl) 6 rfl) 6 rfl)⟩ : (fun w => ∃ ζ Y, Le z354 ζ ∧ Ht w0 (frz ζ :: (blk g359 [.slice A356 y354.1.Refs.length c356, vi y354.1.Floor] 38) :: (blk g351 [.slice A348 y346.1.Refs.length c348, vi y346.1.Floor] 38) :: (blk g343 [.slice A340 y338.1.Refs.length c340, vi y338.1.Floor] 38) :: (blk g335 [.slice A332 y330.1.Refs.length c332, vi y330.1.Floor] 38) :: (blk g327 [vs [122, 122], vi 2, vi (p1.toNat : Int), vi (p1.toNat : Int)] 24) :: (blk g5 [.slice A249 l249.length c249, vi x250] 38) :: Y) w) _)
      refine Any.takeE 0 rfl rfl rfl rfl (by kernel_rfl) (fun _ _ _ _ _ h => h) ((Ex.move rfl).s) ?_
      refine Any.takeE 1 rfl rfl rfl rfl (by kernel_rfl) (fun _ _ _ _ _ h => h) ((Ex.eqlI rfl rfl).s) ?_
      refine Any.takeE 2 rfl rfl rfl rfl (by kernel_rfl) (fun _ _ _ _ _ h => h) ((Ex.move rfl).s) ?_
      refine Any.case 92 rfl (fun hc => ?_) (fun hc => ?_)
      · replace hf := ifT (dec_T hc) hf
        refine Any.takeE 3 rfl rfl rfl rfl (by kernel_rfl) (fun _ _ _ _ _ h => h) (ExS.g ((Ex.move rfl).s)) ?_
        refine Any.takeE 4 rfl rfl rfl rfl (by kernel_rfl) (fun _ _ _ _ _ h => h) (ExS.g ((Ex.eqlI rfl rfl).s)) ?_
        refine Any.takeE 5 rfl rfl rfl rfl (by kernel_rfl) (fun _ _ _ _ _ h => h) ((Ex.pickT rfl rfl).s) ?_
        refine Any.takeE 6 rfl rfl rfl rfl (by kernel_rfl) (fun _ _ _ _ _ h => h) ((Ex.move rfl).s) ?_
        refine Any.case 96 rfl (fun hc => ?_) (fun hc => ?_)
        · replace hf := ifT (dec_T hc) hf
          refine Any.takeE 7 rfl rfl rfl rfl (by kernel_rfl) (fun _ _ _ _ _ h => h) (ExS.g ((Ex.move rfl).s)) ?_
          refine Any.takeE 8 rfl rfl rfl rfl (by kernel_rfl) (fun _ _ _ _ _ h => h) (ExS.g ((Ex.eqlI rfl rfl).s)) ?_
          refine Any.takeE 9 rfl rfl rfl rfl (by kernel_rfl) (fun _ _ _ _ _ h => h) ((Ex.pickT rfl rfl).s) ?_
          refine Any.takeE 10 rfl rfl rfl rfl (by kernel_rfl) (fun _ _ _ _ _ h => h) ((Ex.move rfl).s) ?_
          refine Any.case 100 rfl (fun hc => ?_) (fun hc => ?_)
          · replace hf := ifT (dec_T hc) hf
            refine Any.takeE 11 rfl rfl rfl rfl (by kernel_rfl) (fun _ _ _ _ _ h => h) (ExS.g ((Ex.move rfl).s)) ?_
            refine Any.takeE 12 rfl rfl rfl rfl (by kernel_rfl) (fun _ _ _ _ _ h => h) (ExS.g ((Ex.eqlI rfl rfl).s)) ?_
            refine Any.takeE 13 rfl rfl rfl rfl (by kernel_rfl) (fun _ _ _ _ _ h => h) ((Ex.pickT rfl rfl).s) ?_
            refine Any.takeE 14 rfl rfl rfl rfl (by kernel_rfl) (fun _ _ _ _ _ h => h) ((Ex.move rfl).s) ?_
            refine Any.case 104 rfl (fun hc => ?_) (fun hc => ?_)
            · replace hf := ifT (dec_T hc) hf
              refine Any.takeE 15 rfl rfl rfl rfl (by kernel_rfl) (fun _ _ _ _ _ h => h) (ExS.g ((Ex.fieldAddr rfl Try.underlying38 rfl sz26).s)) ?_
              refine Any.take 0 16 rfl rfl rfl rfl rfl (by kernel_rfl) (fun _ _ _ _ _ h => h) (ExS.g (ExS.load rfl Try.underlying26 rfl (fun w hS => by obtain ⟨_, _, _, hs⟩ := hS; exact hs.cell (i := 2) rfl rfl))) hS0 ?_
              refine Any.takeE 17 rfl rfl rfl rfl (by kernel_rfl) (fun _ _ _ _ _ h => h) (ExS.g ((Ex.len' rfl rfl rfl Try.underlying26).s)) ?_
              refine Any.takeE 18 rfl rfl rfl rfl (by kernel_rfl) (fun _ _ _ _ _ h => h) (ExS.g ((Ex.fieldAddr rfl Try.underlying38 rfl sz26).s)) ?_
              refine Any.take 0 19 rfl rfl rfl rfl rfl (by kernel_rfl) (fun _ _ _ _ _ h => h) (ExS.g (ExS.load rfl Try.underlying26 rfl (fun w hS => by obtain ⟨_, _, _, hs⟩ := hS; exact hs.cell (i := 6) rfl rfl))) hS0 ?_
              refine Any.takeE 20 rfl rfl rfl rfl (by kernel_rfl) (fun _ _ _ _ _ h => h) (ExS.g ((Ex.len' rfl rfl rfl Try.underlying26).s)) ?_
              refine Any.takeE 21 rfl rfl rfl rfl (by kernel_rfl) (fun _ _ _ _ _ h => h) (ExS.g ((Ex.eqlI rfl rfl).s)) ?_
              refine Any.takeE 22 rfl rfl rfl rfl (by kernel_rfl) (fun _ _ _ _ _ h => h) ((Ex.pickT rfl rfl).s) ?_
              refine Any.takeE 23 rfl rfl rfl rfl (by kernel_rfl) (fun _ _ _ _ _ h => h) ((Ex.move rfl).s) ?_
              refine Any.case 113 rfl (fun hc => ?_) (fun hc => ?_)
              · replace hf := ifT (dec_T hc) hf
                refine Any.take 0 24 rfl rfl rfl rfl rfl (by kernel_rfl) (fun _ _ _ _ _ h => h) (ExS.g (ExS.loadAgg [.slice A332 y330.1.Refs.length c332, vi y330.1.Floor] rfl Try.underlying38 rfl sz38 rfl (fun w hS => by obtain ⟨_, _, _, hs⟩ := hS; exact hs.cells (i := 4) rfl 0 2))) hS0 ?_
                refine Any.takeE 26 rfl rfl rfl rfl (by kernel_rfl) (fun _ _ _ _ _ h => h) (ExS.g ((Ex.fieldAddr rfl Try.underlying38 rfl sz26).s)) ?_
                refine Any.take 0 27 rfl rfl rfl rfl rfl (by kernel_rfl) (fun _ _ _ _ _ h => h) (ExS.g (ExS.load rfl Try.underlying26 rfl (fun w hS => by obtain ⟨_, _, _, hs⟩ := hS; exact hs.cell (i := 6) rfl rfl))) hS0 ?_
                refine Any.takeE 28 rfl rfl rfl rfl (by kernel_rfl) (fun _ _ _ _ _ h => h) (ExS.g ((Ex.len' rfl rfl rfl Try.underlying26).s)) ?_
                obtain ⟨y363, hy363, hf⟩ := bnd hf
                refine Any.one 25 (by kernel_rfl) rfl rfl (One.g <| One.of_ops rfl ?_)
                refine Ops.call rfl rfl Try.func16 (by kernel_rfl) (by kernel_rfl) rfl (go_edits_Find.walk (p0 := y330.1) (p1 := [122, 122]) (hst := hst361) (f1 := f332) (hf := hy363)) ?_
                rintro _ w363 ⟨z363, rfl, hz363, hst363⟩
                refine ⟨_, rfl, Ops.stop ?_⟩
                replace f6 := f6.mono hz363; replace f249 := f249.mono hz363; replace f331 := f331.mono hz363; replace f332 := f332.mono hz363; replace f339 := f339.mono hz363; replace f340 := f340.mono hz363; replace f347 := f347.mono hz363; replace f348 := f348.mono hz363; replace f355 := f355.mono hz363; replace f356 := f356.mono hz363
                replace hy251_0 := hy251_0.trans hz363
                replace hz251 := hz251.trans hz363
                replace hm362 := hm362.trans hz363
                have hS0 := (⟨_, _, hm362, (St.up (St.up (St.up (St.up (St.up (St.up (St.up hst363 6 rfl) 6 rfl) 6 rfl) 6 rfl) 6 rfl) 6 rfl) 6 rfl)⟩ : (fun w => ∃ ζ Y, Le z354 ζ ∧ Ht w0 (frz ζ :: (blk g359 [.slice A356 y354.1.Refs.length c356, vi y354.1.Floor] 38) :: (blk g351 [.slice A348 y346.1.Refs.length c348, vi y346.1.Floor] 38) :: (blk g343 [.slice A340 y338.1.Refs.length c340, vi y338.1.Floor] 38) :: (blk g335 [.slice A332 y330.1.Refs.length c332, vi y330.1.Floor] 38) :: (blk g327 [vs [122, 122], vi 2, vi (p1.toNat : Int), vi (p1.toNat : Int)] 24) :: (blk g5 [.slice A249 l249.length c249, vi x250] 38) :: Y) w) _)
                refine ⟨⟨.inr (fun _ => hS0), trivial⟩, ?_⟩
                refine Any.takeE 29 rfl rfl rfl rfl (by kernel_rfl) (fun _ _ _ _ _ h => h) (ExS.g ((Ex.eqlI rfl rfl).s)) ?_
                refine Any.takeE 30 rfl rfl rfl rfl (by kernel_rfl) (fun _ _ _ _ _ h => h) ((Ex.pickT rfl rfl).s) ?_
                refine Any.takeE 31 rfl rfl rfl rfl (by kernel_rfl) (fun _ _ _ _ _ h => h) ((Ex.move rfl).s) ?_
                refine Any.case 121 rfl (fun hc => ?_) (fun hc => ?_)
                · replace hf := ifT (dec_T hc) hf
                  refine Any.take 0 32 rfl rfl rfl rfl rfl (by kernel_rfl) (fun _ _ _ _ _ h => h) (ExS.g (ExS.loadAgg [.slice A348 y346.1.Refs.length c348, vi y346.1.Floor] rfl Try.underlying38 rfl sz38 rfl (fun w hS => by obtain ⟨_, _, _, hs⟩ := hS; exact hs.cells (i := 2) rfl 0 2))) hS0 ?_
                  obtain ⟨y365, hy365, hf⟩ := bnd hf
                  refine Any.one 33 (by kernel_rfl) rfl rfl (One.g <| One.of_ops rfl ?_)
                  refine Ops.call rfl rfl Try.func16 (by kernel_rfl) (by kernel_rfl) rfl (go_edits_Find.walk (p0 := y346.1) (p1 := [122, 122]) (hst := hst363) (f1 := f348) (hf := hy365)) ?_
                  rintro _ w365 ⟨z365, rfl, hz365, hst365⟩
                  refine ⟨_, rfl, Ops.stop ?_⟩
                  replace f6 := f6.mono hz365; replace f249 := f249.mono hz365; replace f331 := f331.mono hz365; replace f332 := f332.mono hz365; replace f339 := f339.mono hz365; replace f340 := f340.mono hz365; replace f347 := f347.mono hz365; replace f348 := f348.mono hz365; replace f355 := f355.mono hz365; replace f356 := f356.mono hz365
                  replace hy251_0 := hy251_0.trans hz365
                  replace hz251 := hz251.trans hz365
                  replace hm362 := hm362.trans hz365
                  have hS0 := (⟨_, _, hm362, (St.up (St.up (St.up (St.up (St.up (St.up (St.up hst365 6 rfl) 6 rfl) 6 rfl) 6 rfl) 6 rfl) 6 rfl) 6 rfl)⟩ : (fun w => ∃ ζ Y, Le z354 ζ ∧ Ht w0 (frz ζ :: (blk g359 [.slice A356 y354.1.Refs.length c356, vi y354.1.Floor] 38) :: (blk g351 [.slice A348 y346.1.Refs.length c348, vi y346.1.Floor] 38) :: (blk g343 [.slice A340 y338.1.Refs.length c340, vi y338.1.Floor] 38) :: (blk g335 [.slice A332 y330.1.Refs.length c332, vi y330.1.Floor] 38) :: (blk g327 [vs [122, 122], vi 2, vi (p1.toNat : Int), vi (p1.toNat : Int)] 24) :: (blk g5 [.slice A249 l249.length c249, vi x250] 38) :: Y) w) _)
                  refine ⟨⟨.inr (fun _ => hS0), trivial⟩, ?_⟩
                  refine Any.takeE 34 rfl rfl rfl rfl (by kernel_rfl) (fun _ _ _ _ _ h => h) (ExS.g ((Ex.eqlI rfl rfl).s)) ?_
                  refine Any.takeE 35 rfl rfl rfl rfl (by kernel_rfl) (fun _ _ _ _ _ h => h) ((Ex.pickT rfl rfl).s) ?_
                  refine Any.takeE 36 rfl rfl rfl rfl (by kernel_rfl) (fun _ _ _ _ _ h => h) ((Ex.assign rfl).s) ?_
                  refine Any.done (by kernel_rfl) ?_
                  obtain rfl := Option.some.inj hf
                  exact Run.retV [vb (decide (y365 = (-1)))] rfl ⟨rfl, trivial⟩ ⟨z365, rfl, hy251_0, (St.forget (St.forget (St.forget (St.forget (St.forget (St.forget hst365 6) 5) 4) 3) 2) 1)⟩
                · replace hf := ifF (dec_F hc) hf
                  refine Any.pass 32 rfl rfl rfl rfl (by kernel_rfl) (fun _ _ _ _ _ h => h) ?_
                  refine Any.pass 33 rfl rfl rfl rfl (by kernel_rfl) (fun _ _ _ _ _ h => h) ?_
                  refine Any.pass 34 rfl rfl rfl rfl (by kernel_rfl) (fun _ _ _ _ _ h => h) ?_
                  refine Any.takeE 35 rfl rfl rfl rfl (by kernel_rfl) (fun _ _ _ _ _ h => h) ((Ex.pickF rfl rfl).s) ?_
                  refine Any.takeE 36 rfl rfl rfl rfl (by kernel_rfl) (fun _ _ _ _ _ h => h) ((Ex.assign rfl).s) ?_
                  refine Any.done (by kernel_rfl) ?_
                  obtain rfl := Option.some.inj hf
                  exact Run.retV [vb false] rfl ⟨rfl, trivial⟩ ⟨z363, rfl, hy251_0, (St.forget (St.forget (St.forget (St.forget (St.forget (St.forget hst363 6) 5) 4) 3) 2) 1)⟩
              · replace hf := ifF (dec_F hc) hf
                refine Any.pass 24 rfl rfl rfl rfl (by kernel_rfl) (fun _ _ _ _ _ h => h) ?_
                refine Any.pass 25 rfl rfl rfl rfl (by kernel_rfl) (fun _ _ _ _ _ h => h) ?_
                refine Any.pass 26 rfl rfl rfl rfl (by kernel_rfl) (fun _ _ _ _ _ h => h) ?_
                refine Any.pass 27 rfl rfl rfl rfl (by kernel_rfl) (fun _ _ _ _ _ h => h) ?_
                refine Any.pass 28 rfl rfl rfl rfl (by kernel_rfl) (fun _ _ _ _ _ h => h) ?_
                refine Any.pass 29 rfl rfl rfl rfl (by kernel_rfl) (fun _ _ _ _ _ h => h) ?_
                refine Any.takeE 30 rfl rfl rfl rfl (by kernel_rfl) (fun _ _ _ _ _ h => h) ((Ex.pickF rfl rfl).s) ?_
                refine Any.takeE 31 rfl rfl rfl rfl (by kernel_rfl) (fun _ _ _ _ _ h => h) ((Ex.move rfl).s) ?_
                refine Any.pass 32 rfl rfl rfl rfl (by kernel_rfl) (fun _ _ _ _ _ h => h) ?_
                refine Any.pass 33 rfl rfl rfl rfl (by kernel_rfl) (fun _ _ _ _ _ h => h) ?_
                refine Any.pass 34 rfl rfl rfl rfl (by kernel_rfl) (fun _ _ _ _ _ h => h) ?_
                refine Any.takeE 35 rfl rfl rfl rfl (by kernel_rfl) (fun _ _ _ _ _ h => h) ((Ex.pickF rfl rfl).s) ?_
                refine Any.takeE 36 rfl rfl rfl rfl (by kernel_rfl) (fun _ _ _ _ _ h => h) ((Ex.assign rfl).s) ?_
                refine Any.done (by kernel_rfl) ?_
                obtain rfl := Option.some.inj hf
                exact Run.retV [vb false] rfl ⟨rfl, trivial⟩ ⟨z354, rfl, hy251_0, (St.forget (St.forget (St.forget (St.forget (St.forget (St.forget hst361 6) 5) 4) 3) 2) 1)⟩
            · replace hf := ifF (dec_F hc) hf
              refine Any.pass 15 rfl rfl rfl rfl (by kernel_rfl) (fun _ _ _ _ _ h => h) ?_
              refine Any.pass 16 rfl rfl rfl rfl (by kernel_rfl) (fun _ _ _ _ _ h => h) ?_
              refine Any.pass 17 rfl rfl rfl rfl (by kernel_rfl) (fun _ _ _ _ _ h => h) ?_
              refine Any.pass 18 rfl rfl rfl rfl (by kernel_rfl) (fun _ _ _ _ _ h => h) ?_
              refine Any.pass 19 rfl rfl rfl rfl (by kernel_rfl) (fun _ _ _ _ _ h => h) ?_
              refine Any.pass 20 rfl rfl rfl rfl (by kernel_rfl) (fun _ _ _ _ _ h => h) ?_
              refine Any.pass 21 rfl rfl rfl rfl (by kernel_rfl) (fun _ _ _ _ _ h => h) ?_
              refine Any.takeE 22 rfl rfl rfl rfl (by kernel_rfl) (fun _ _ _ _ _ h => h) ((Ex.pickF rfl rfl).s) ?_
              refine Any.takeE 23 rfl rfl rfl rfl (by kernel_rfl) (fun _ _ _ _ _ h => h) ((Ex.move rfl).s) ?_
              refine Any.pass 24 rfl rfl rfl rfl (by kernel_rfl) (fun _ _ _ _ _ h => h) ?_
              refine Any.pass 25 rfl rfl rfl rfl (by kernel_rfl) (fun _ _ _ _ _ h => h) ?_
              refine Any.pass 26 rfl rfl rfl rfl (by kernel_rfl) (fun _ _ _ _ _ h => h) ?_
              refine Any.pass 27 rfl rfl rfl rfl (by kernel_rfl) (fun _ _ _ _ _ h => h) ?_
              refine Any.pass 28 rfl rfl rfl rfl (by kernel_rfl) (fun _ _ _ _ _ h => h) ?_
              refine Any.pass 29 rfl rfl rfl rfl (by kernel_rfl) (fun _ _ _ _ _ h => h) ?_
              refine Any.takeE 30 rfl rfl rfl rfl (by kernel_rfl) (fun _ _ _ _ _ h => h) ((Ex.pickF rfl rfl).s) ?_
              refine Any.takeE 31 rfl rfl rfl rfl (by kernel_rfl) (fun _ _ _ _ _ h => h) ((Ex.move rfl).s) ?_
              refine Any.pass 32 rfl rfl rfl rfl (by kernel_rfl) (fun _ _ _ _ _ h => h) ?_
              refine Any.pass 33 rfl rfl rfl rfl (by kernel_rfl) (fun _ _ _ _ _ h => h) ?_
              refine Any.pass 34 rfl rfl rfl rfl (by kernel_rfl) (fun _ _ _ _ _ h => h) ?_
              refine Any.takeE 35 rfl rfl rfl rfl (by kernel_rfl) (fun _ _ _ _ _ h => h) ((Ex.pickF rfl rfl).s) ?_
              refine Any.takeE 36 rfl rfl rfl rfl (by kernel_rfl) (fun _ _ _ _ _ h => h) ((Ex.assign rfl).s) ?_
              refine Any.done (by kernel_rfl) ?_
              obtain rfl := Option.some.inj hf
              exact Run.retV [vb false] rfl ⟨rfl, trivial⟩ ⟨z354, rfl, hy251_0, (St.forget (St.forget (St.forget (St.forget (St.forget (St.forget hst361 6) 5) 4) 3) 2) 1)⟩
          · replace hf := ifF (dec_F hc) hf
            refine Any.pass 11 rfl rfl rfl rfl (by kernel_rfl) (fun _ _ _ _ _ h => h) ?_
            refine Any.pass 12 rfl rfl rfl rfl (by kernel_rfl) (fun _ _ _ _ _ h => h) ?_
            refine Any.takeE 13 rfl rfl rfl rfl (by kernel_rfl) (fun _ _ _ _ _ h => h) ((Ex.pickF rfl rfl).s) ?_
            refine Any.takeE 14 rfl rfl rfl rfl (by kernel_rfl) (fun _ _ _ _ _ h => h) ((Ex.move rfl).s) ?_
            refine Any.pass 15 rfl rfl rfl rfl (by kernel_rfl) (fun _ _ _ _ _ h => h) ?_
            refine Any.pass 16 rfl rfl rfl rfl (by kernel_rfl) (fun _ _ _ _ _ h => h) ?_
            refine Any.pass 17 rfl rfl rfl rfl (by kernel_rfl) (fun _ _ _ _ _ h => h) ?_
            refine Any.pass 18 rfl rfl rfl rfl (by kernel_rfl) (fun _ _ _ _ _ h => h) ?_
            refine Any.pass 19 rfl rfl rfl rfl (by kernel_rfl) (fun _ _ _ _ _ h => h) ?_
            refine Any.pass 20 rfl rfl rfl rfl (by kernel_rfl) (fun _ _ _ _ _ h => h) ?_
            refine Any.pass 21 rfl rfl rfl rfl (by kernel_rfl) (fun _ _ _ _ _ h => h) ?_
            refine Any.takeE 22 rfl rfl rfl rfl (by kernel_rfl) (fun _ _ _ _ _ h => h) ((Ex.pickF rfl rfl).s) ?_
            refine Any.takeE 23 rfl rfl rfl rfl (by kernel_rfl) (fun _ _ _ _ _ h => h) ((Ex.move rfl).s) ?_
            refine Any.pass 24 rfl rfl rfl rfl (by kernel_rfl) (fun _ _ _ _ _ h => h) ?_
            refine Any.pass 25 rfl rfl rfl rfl (by kernel_rfl) (fun _ _ _ _ _ h => h) ?_
            refine Any.pass 26 rfl rfl rfl rfl (by kernel_rfl) (fun _ _ _ _ _ h => h) ?_
            refine Any.pass 27 rfl rfl rfl rfl (by kernel_rfl) (fun _ _ _ _ _ h => h) ?_
            refine Any.pass 28 rfl rfl rfl rfl (by kernel_rfl) (fun _ _ _ _ _ h => h) ?_
            refine Any.pass 29 rfl rfl rfl rfl (by kernel_rfl) (fun _ _ _ _ _ h => h) ?_
            refine Any.takeE 30 rfl rfl rfl rfl (by kernel_rfl) (fun _ _ _ _ _ h => h) ((Ex.pickF rfl rfl).s) ?_
            refine Any.takeE 31 rfl rfl rfl rfl (by kernel_rfl) (fun _ _ _ _ _ h => h) ((Ex.move rfl).s) ?_
            refine Any.pass 32 rfl rfl rfl rfl (by kernel_rfl) (fun _ _ _ _ _ h => h) ?_
            refine Any.pass 33 rfl rfl rfl rfl (by kernel_rfl) (fun _ _ _ _ _ h => h) ?_
            refine Any.pass 34 rfl rfl rfl rfl (by kernel_rfl) (fun _ _ _ _ _ h => h) ?_
            refine Any.takeE 35 rfl rfl rfl rfl (by kernel_rfl) (fun _ _ _ _ _ h => h) ((Ex.pickF rfl rfl).s) ?_
            refine Any.takeE 36 rfl rfl rfl rfl (by kernel_rfl) (fun _ _ _ _ _ h => h) ((Ex.assign rfl).s) ?_
            refine Any.done (by kernel_rfl) ?_
            obtain rfl := Option.some.inj hf
            exact Run.retV [vb false] rfl ⟨rfl, trivial⟩ ⟨z354, rfl, hy251_0, (St.forget (St.forget (St.forget (St.forget (St.forget (St.forget hst361 6) 5) 4) 3) 2) 1)⟩
        · replace hf := ifF (dec_F hc) hf
          refine Any.pass 7 rfl rfl rfl rfl (by kernel_rfl) (fun _ _ _ _ _ h => h) ?_
          refine Any.pass 8 rfl rfl rfl rfl (by kernel_rfl) (fun _ _ _ _ _ h => h) ?_
          refine Any.takeE 9 rfl rfl rfl rfl (by kernel_rfl) (fun _ _ _ _ _ h => h) ((Ex.pickF rfl rfl).s) ?_
          refine Any.takeE 10 rfl rfl rfl rfl (by kernel_rfl) (fun _ _ _ _ _ h => h) ((Ex.move rfl).s) ?_
          refine Any.pass 11 rfl rfl rfl rfl (by kernel_rfl) (fun _ _ _ _ _ h => h) ?_
          refine Any.pass 12 rfl rfl rfl rfl (by kernel_rfl) (fun _ _ _ _ _ h => h) ?_
          refine Any.takeE 13 rfl rfl rfl rfl (by kernel_rfl) (fun _ _ _ _ _ h => h) ((Ex.pickF rfl rfl).s) ?_
          refine Any.takeE 14 rfl rfl rfl rfl (by kernel_rfl) (fun _ _ _ _ _ h => h) ((Ex.move rfl).s) ?_
          refine Any.pass 15 rfl rfl rfl rfl (by kernel_rfl) (fun _ _ _ _ _ h => h) ?_
          refine Any.pass 16 rfl rfl rfl rfl (by kernel_rfl) (fun _ _ _ _ _ h => h) ?_
          refine Any.pass 17 rfl rfl rfl rfl (by kernel_rfl) (fun _ _ _ _ _ h => h) ?_
          refine Any.pass 18 rfl rfl rfl rfl (by kernel_rfl) (fun _ _ _ _ _ h => h) ?_
          refine Any.pass 19 rfl rfl rfl rfl (by kernel_rfl) (fun _ _ _ _ _ h => h) ?_
          refine Any.pass 20 rfl rfl rfl rfl (by kernel_rfl) (fun _ _ _ _ _ h => h) ?_
          refine Any.pass 21 rfl rfl rfl rfl (by kernel_rfl) (fun _ _ _ _ _ h => h) ?_
          refine Any.takeE 22 rfl rfl rfl rfl (by kernel_rfl) (fun _ _ _ _ _ h => h) ((Ex.pickF rfl rfl).s) ?_
          refine Any.takeE 23 rfl rfl rfl rfl (by kernel_rfl) (fun _ _ _ _ _ h => h) ((Ex.move rfl).s) ?_
          refine Any.pass 24 rfl rfl rfl rfl (by kernel_rfl) (fun _ _ _ _ _ h => h) ?_
          refine Any.pass 25 rfl rfl rfl rfl (by kernel_rfl) (fun _ _ _ _ _ h => h) ?_
          refine Any.pass 26 rfl rfl rfl rfl (by kernel_rfl) (fun _ _ _ _ _ h => h) ?_
          refine Any.pass 27 rfl rfl rfl rfl (by kernel_rfl) (fun _ _ _ _ _ h => h) ?_
          refine Any.pass 28 rfl rfl rfl rfl (by kernel_rfl) (fun _ _ _ _ _ h => h) ?_
          refine Any.pass 29 rfl rfl rfl rfl (by kernel_rfl) (fun _ _ _ _ _ h => h) ?_
          refine Any.takeE 30 rfl rfl rfl rfl (by kernel_rfl) (fun _ _ _ _ _ h => h) ((Ex.pickF rfl rfl).s) ?_
          refine Any.takeE 31 rfl rfl rfl rfl (by kernel_rfl) (fun _ _ _ _ _ h => h) ((Ex.move rfl).s) ?_
          refine Any.pass 32 rfl rfl rfl rfl (by kernel_rfl) (fun _ _ _ _ _ h => h) ?_
          refine Any.pass 33 rfl rfl rfl rfl (by kernel_rfl) (fun _ _ _ _ _ h => h) ?_
          refine Any.pass 34 rfl rfl rfl rfl (by kernel_rfl) (fun _ _ _ _ _ h => h) ?_
          refine Any.takeE 35 rfl rfl rfl rfl (by kernel_rfl) (fun _ _ _ _ _ h => h) ((Ex.pickF rfl rfl).s) ?_
          refine Any.takeE 36 rfl rfl rfl rfl (by kernel_rfl) (fun _ _ _ _ _ h => h) ((Ex.assign rfl).s) ?_
          refine Any.done (by kernel_rfl) ?_
          obtain rfl := Option.some.inj hf
          exact Run.retV [vb false] rfl ⟨rfl, trivial⟩ ⟨z354, rfl, hy251_0, (St.forget (St.forget (St.forget (St.forget (St.forget (St.forget hst361 6) 5) 4) 3) 2) 1)⟩
      · replace hf := ifF (dec_F hc) hf
        refine Any.pass 3 rfl rfl rfl rfl (by kernel_rfl) (fun _ _ _ _ _ h => h) ?_
        refine Any.pass 4 rfl rfl rfl rfl (by kernel_rfl) (fun _ _ _ _ _ h => h) ?_
        refine Any.takeE 5 rfl rfl rfl rfl (by kernel_rfl) (fun _ _ _ _ _ h => h) ((Ex.pickF rfl rfl).s) ?_
        refine Any.takeE 6 rfl rfl rfl rfl (by kernel_rfl) (fun _ _ _ _ _ h => h) ((Ex.move rfl).s) ?_
        refine Any.pass 7 rfl rfl rfl rfl (by kernel_rfl) (fun _ _ _ _ _ h => h) ?_
        refine Any.pass 8 rfl rfl rfl rfl (by kernel_rfl) (fun _ _ _ _ _ h => h) ?_
        refine Any.takeE 9 rfl rfl rfl rfl (by kernel_rfl) (fun _ _ _ _ _ h => h) ((Ex.pickF rfl rfl).s) ?_
        refine Any.takeE 10 rfl rfl rfl rfl (by kernel_rfl) (fun _ _ _ _ _ h => h) ((Ex.move rfl).s) ?_
        refine Any.pass 11 rfl rfl rfl rfl (by kernel_rfl) (fun _ _ _ _ _ h => h) ?_
        refine Any.pass 12 rfl rfl rfl rfl (by kernel_rfl) (fun _ _ _ _ _ h => h) ?_
        refine Any.takeE 13 rfl rfl rfl rfl (by kernel_rfl) (fun _ _ _ _ _ h => h) ((Ex.pickF rfl rfl).s) ?_
        refine Any.takeE 14 rfl rfl rfl rfl (by kernel_rfl) (fun _ _ _ _ _ h => h) ((Ex.move rfl).s) ?_
        refine Any.pass 15 rfl rfl rfl rfl (by kernel_rfl) (fun _ _ _ _ _ h => h) ?_
        refine Any.pass 16 rfl rfl rfl rfl (by kernel_rfl) (fun _ _ _ _ _ h => h) ?_
        refine Any.pass 17 rfl rfl rfl rfl (by kernel_rfl) (fun _ _ _ _ _ h => h) ?_
        refine Any.pass 18 rfl rfl rfl rfl (by kernel_rfl) (fun _ _ _ _ _ h => h) ?_
        refine Any.pass 19 rfl rfl rfl rfl (by kernel_rfl) (fun _ _ _ _ _ h => h) ?_
        refine Any.pass 20 rfl rfl rfl rfl (by kernel_rfl) (fun _ _ _ _ _ h => h) ?_
        refine Any.pass 21 rfl rfl rfl rfl (by kernel_rfl) (fun _ _ _ _ _ h => h) ?_
        refine Any.takeE 22 rfl rfl rfl rfl (by kernel_rfl) (fun _ _ _ _ _ h => h) ((Ex.pickF rfl rfl).s) ?_
        refine Any.takeE 23 rfl rfl rfl rfl (by kernel_rfl) (fun _ _ _ _ _ h => h) ((Ex.move rfl).s) ?_
        refine Any.pass 24 rfl rfl rfl rfl (by kernel_rfl) (fun _ _ _ _ _ h => h) ?_
        refine Any.pass 25 rfl rfl rfl rfl (by kernel_rfl) (fun _ _ _ _ _ h => h) ?_
        refine Any.pass 26 rfl rfl rfl rfl (by kernel_rfl) (fun _ _ _ _ _ h => h) ?_
        refine Any.pass 27 rfl rfl rfl rfl (by kernel_rfl) (fun _ _ _ _ _ h => h) ?_
        refine Any.pass 28 rfl rfl rfl rfl (by kernel_rfl) (fun _ _ _ _ _ h => h) ?_
        refine Any.pass 29 rfl rfl rfl rfl (by kernel_rfl) (fun _ _ _ _ _ h => h) ?_
        refine Any.takeE 30 rfl rfl rfl rfl (by kernel_rfl) (fun _ _ _ _ _ h => h) ((Ex.pickF rfl rfl).s) ?_
        refine Any.takeE 31 rfl rfl rfl rfl (by kernel_rfl) (fun _ _ _ _ _ h => h) ((Ex.move rfl).s) ?_
        refine Any.pass 32 rfl rfl rfl rfl (by kernel_rfl) (fun _ _ _ _ _ h => h) ?_
        refine Any.pass 33 rfl rfl rfl rfl (by kernel_rfl) (fun _ _ _ _ _ h => h) ?_
        refine Any.pass 34 rfl rfl rfl rfl (by kernel_rfl) (fun _ _ _ _ _ h => h) ?_
        refine Any.takeE 35 rfl rfl rfl rfl (by kernel_rfl) (fun _ _ _ _ _ h => h) ((Ex.pickF rfl rfl).s) ?_
        refine Any.takeE 36 rfl rfl rfl rfl (by kernel_rfl) (fun _ _ _ _ _ h => h) ((Ex.assign rfl).s) ?_
        refine Any.done (by kernel_rfl) ?_
        obtain rfl := Option.some.inj hf
        exact Run.retV [vb false] rfl ⟨rfl, trivial⟩ ⟨z354, rfl, hy251_0, (St.forget (St.forget (St.forget (St.forget (St.forget (St.forget hst361 6) 5) 4) 3) 2) 1)⟩
def go_law10_EditsAll.j1 (l284 : List apiRef) (x285 : Int) (nxb6 : (List apiRef × Int) → Option Bool) (x330 : Int) (l331 : List apiRef) (x332 : Int) : Option Bool :=
  if x330 = 0 then (nxb6 (l331, x332)) else (nxb6 (l284, x285))
def go_law10_EditsAll.b2 (y366 : editsSet × Int) (i372 : Nat) (a372 : apiRef) : Unit → (Unit → Option Bool) → Option Bool :=
  fun _ nxb372 => (atI y366.1.Refs (i372 : Int)).bind fun y414 => if a372 = y414 then (nxb372 ()) else (some false)
def go_law10_EditsAll.b1 (i6 : Nat) (a6 : law10Step) : (List apiRef × Int) → (List apiRef × Int → Option Bool) → Option Bool :=
  fun (l284, x285) nxb6 => (go_law10_Step_Edit a6).bind fun y334 => (go_edits_Do (⟨l284, x285⟩ : editsSet) y334).bind fun y338 => go_law10_EditsAll.j1 l284 x285 nxb6 y338.2 y338.1.Refs y338.1.Floor
def go_law10_EditsAll (p0 : List law10Step) : Option Bool :=
  (go_law10_awake).bind fun y2 => if y2 then ((cutI p0 0 (min (p0.length : Int) 40)).bind fun l5 => forL (go_law10_EditsAll.b1) (fun (l284, x285) => (go_edits_All (⟨l284, x285⟩ : editsSet)).bind fun y362 => (go_edits_Do (⟨[], 0⟩ : editsSet) y362).bind fun y366 => if y366.2 = 0 then (if y366.1.Floor = x285 then (if (y366.1.Refs.length : Int) = (l284.length : Int) then (forL (go_law10_EditsAll.b2 y366) (fun _ => some true) 0 l284 ()) else (some false)) else (some false)) else (some false)) 0 l5 ([], 0)) else (some false)
set_option maxRecDepth 100000 in
set_option maxHeartbeats 4000000 in
theorem go_law10_EditsAll.walk {w0 w : World} {X : List Res} {z0 : Zp} {p0 : List law10Step} {A1 : Option Addr} {c1 : Nat} {r : Bool} (hst : Ht w0 (frz z0 :: X) w) (f1 : Sl tlaw10Step z0 A1 c1 p0) (hf : go_law10_EditsAll p0 = some r) :
    Calls Try.prog 6 #[.slice A1 p0.length c1] w fun e w' => ∃ (z' : Zp), e = .returned (vb r) ∧ Le z0 z' ∧ Ht w0 (frz z' :: X) w' := by
  refine calls_np Try.func6 rfl rfl ?_
  have hle0 := Le.refl z0
  unfold go_law10_EditsAll at hf
  refine Run.seq ?_
  refine Run.region ?_
  refine Ops.ex (Ex.assign rfl) rfl rfl rfl ?_
  refine Ops.nil ?_
  refine Run.seq ?_
  refine Run.seq ?_
  refine Run.region ?_
  obtain ⟨y2, hy2, hf⟩ := bnd hf
  refine Ops.call rfl rfl Try.func11 (by kernel_rfl) (by kernel_rfl) rfl (go_law10_awake.walk (hst := hst) (hf := hy2)) ?_
  rintro _ w2 ⟨z2, rfl, hz2, hst2⟩
  refine ⟨_, rfl, ?_⟩
  replace f1 := f1.mono hz2
  replace hle0 := hle0.trans hz2
  refine Ops.ex (Ex.not rfl) rfl rfl rfl ?_
  refine Ops.nil ?_
  refine Run.cond rfl (fun hc => ?_) (fun hc => ?_)
  · replace hf := ifFb (bn_T hc) hf
    refine Run.seq ?_
    refine Run.region ?_
    refine Ops.ex (Ex.assign rfl) rfl rfl rfl ?_
    refine Ops.nil ?_
    obtain rfl := Option.some.inj hf
    exact Run.retV [vb false] rfl ⟨rfl, trivial⟩ ⟨z2, rfl, hle0, hst2⟩
  · replace hf := ifTb (bn_F hc) hf
    refine Run.skip ?_
    refine Run.seq ?_
    refine Run.region ?_
    refine Ops.allocF [.slice none 0 0, vi 0] hst2 zr38 rfl rfl (fun g4 w4 hst4 => ?_)
    refine Ops.nil ?_
    refine Run.seq ?_
    refine Run.seq ?_
    refine Run.region ?_
    refine Ops.ex (Ex.move rfl) rfl rfl rfl ?_
    refine Ops.ex (Ex.move rfl) rfl rfl rfl ?_
    refine Ops.ex (Ex.len' rfl rfl rfl Try.underlying36) rfl rfl rfl ?_
    refine Ops.ex (Ex.min2 rfl rfl rfl) rfl rfl rfl ?_
    obtain ⟨l5, hy5, hf⟩ := bnd hf
    obtain ⟨A5, c5, hA5, hB5, f5⟩ := SlH.sub f1.toH hy5
    replace f5 := f5.toS
    refine Ops.ex (Ex.subA hA5 hB5 hy5 rfl rfl Try.underlying36 sz32 rfl rfl) rfl rfl rfl ?_
    refine Ops.ex (Ex.len' rfl rfl rfl Try.underlying36) rfl rfl rfl ?_
    refine Ops.ex (Ex.move rfl) rfl rfl rfl ?_
    refine Ops.nil ?_
    refine Run.block ?_
    have hc6 := f5.cap
    have hm7 := Le.refl z2
    refine Run.sub (e' := [(3, .pointer (some ⟨g4, 0, none⟩)), (17, .slice A5 l5.length c5), (18, vi (l5.length : Int)), (19, vi ((0 : Nat) : Int))]) (subB_spec ⟨rfl, rfl, rfl, rfl, trivial⟩) ?_
    refine Run.loop (fun mb6 => (fun e' w' => ∃ (i6 : Nat) (l284 : List apiRef) (x285 : Int) (A284 : Option Addr) (c284 : Nat) (z283 : Zp), mb6 = l5.length - i6 ∧ i6 ≤ l5.length ∧ forL (go_law10_EditsAll.b1) (fun (l284, x285) => (go_edits_All (⟨l284, x285⟩ : editsSet)).bind fun y362 => (go_edits_Do (⟨[], 0⟩ : editsSet) y362).bind fun y366 => if y366.2 = 0 then (if y366.1.Floor = x285 then (if (y366.1.Refs.length : Int) = (l284.length : Int) then (forL (go_law10_EditsAll.b2 y366) (fun _ => some true) 0 l284 ()) else (some false)) else (some false)) else (some false)) i6 (l5.drop i6) (l284, x285) = some r ∧ e' = [(3, .pointer (some ⟨g4, 0, none⟩)), (17, .slice A5 l5.length c5), (18, vi (l5.length : Int)), (19, vi (i6 : Int))] ∧ Le z2 z283 ∧ Le z0 z283 ∧ Sl tapiRef z283 A284 c284 l284 ∧ Ht w0 (frz z283 :: (blk g4 [.slice A284 l284.length c284, vi x285] 38) :: X) w')) l5.length ⟨0, [], 0, none, 0, z2, rfl, Nat.zero_le _, hf, rfl, hm7, hle0, (Sl.nil _ _), hst4⟩ ?_
    rintro _ e' w286 ⟨i6, l284, x285, A284, c284, z283, rfl, hi6, hf, rfl, hz286, hy286_0, f284, hst286⟩
    replace f5 := f5.mono hz286
    refine Run.seq ?_
    refine Run.region ?_
    refine Ops.ex (Ex.lss rfl rfl) rfl rfl rfl ?_
    refine Ops.nil ?_
    refine Run.seq ?_
    refine Run.cond rfl (fun hc => ?_) (fun hc => ?_)
    · have hl6 := lt_of_dec hc
      obtain ⟨a6, nxb6, ha6, hnxb6, hf⟩ := forL_in hf hl6
      unfold go_law10_EditsAll.b1 at hf
      try dsimp only at hf
      refine Run.skip ?_
      refine Run.seq ?_
      refine Run.block ?_
      refine Run.seq ?_
      refine Run.region ?_
      obtain ⟨g295, p295, o295, cs295, hA295, ho295, hr295, f295⟩ := SlH.elem f5.toH (atI_nat ha6)
      obtain ⟨A287, c287, A288, c288, rfl, f287, f288⟩ := hr295
      refine Ops.ex (Ex.ixA hA295 ho295 (atI_nat ha6) rfl rfl rfl Try.underlying36 sz32) rfl rfl rfl ?_
      refine Ops.loadAgg [.slice A287 a6.Add.length c287, .slice A288 a6.Drop.length c288, vu8 a6.Floor, vb a6.Odd, vs a6.Any.Name, vi a6.Any.Kind, vi a6.Any.From, vi a6.Any.To] rfl Try.underlying32 rfl sz32 rfl (cells_of_zc rfl (f295.mono hst286.le)) rfl ?_
      refine Ops.allocF [.slice none 0 0, .slice none 0 0, vu8 0, vb false, vs [], vi 0, vi 0, vi 0] hst286 zr32 rfl rfl (fun g296 w296 hst296 => ?_)
      refine Ops.store 1 [.slice A287 a6.Add.length c287, .slice A288 a6.Drop.length c288, vu8 a6.Floor, vb a6.Odd, vs a6.Any.Name, vi a6.Any.Kind, vi a6.Any.From, vi a6.Any.To] hst296 rfl rfl rfl rfl sz32 rfl (by simp [Value.oneCell']) (by simp) (fun w297 hst297 => ?_)
      refine Ops.nil ?_
      refine Run.seq ?_
      have hm327 := Le.refl z283
      apply Run.jn (fun e' w' => ∃ (x330 : Int) (l331 : List apiRef) (x332 : Int) (g329 : Nat) (A331 : Option Addr) (c331 : Nat) (z328 : Zp), go_law10_EditsAll.j1 l284 x285 nxb6 x330 l331 x332 = some r ∧ e' = [(3, .pointer (some ⟨g4, 0, none⟩)), (6, .pointer (some ⟨g329, 0, none⟩)), (7, vi x330), (17, .slice A5 l5.length c5), (18, vi (l5.length : Int)), (19, vi (i6 : Int))] ∧ Le z283 z328 ∧ Le z0 z328 ∧ Le z2 z328 ∧ Sl tapiRef z328 A331 c331 l331 ∧ Ht w0 (frz z328 :: (blk g4 [.slice A284 l284.length c284, vi x285] 38) :: (blk g329 [.slice A331 l331.length c331, vi x332] 38) :: X) w')
      · intro hj298
        refine Run.drawH [([], fun w => ∃ ζ Y, Le z283 ζ ∧ Ht w0 (frz ζ :: (blk g296 [.slice A287 a6.Add.length c287, .slice A288 a6.Drop.length c288, vu8 a6.Floor, vb a6.Odd, vs a6.Any.Name, vi a6.Any.Kind, vi a6.Any.From, vi a6.Any.To] 32) :: (blk g4 [.slice A284 l284.length c284, vi x285] 38) :: Y) w)] (by kernel_rfl) hst297 (fun w333 hst333 => ?_)
        have hS0 := (⟨_, _, (Le.refl _), (St.up (St.up (St.up hst333 2 rfl) 2 rfl) 2 rfl)⟩ : (fun w => ∃ ζ Y, Le z283 ζ ∧ Ht w0 (frz ζ :: (blk g296 [.slice A287 a6.Add.length c287, .slice A288 a6.Drop.length c288, vu8 a6.Floor, vb a6.Odd, vs a6.Any.Name, vi a6.Any.Kind, vi a6.Any.From, vi a6.Any.To] 32) :: (blk g4 [.slice A284 l284.length c284, vi x285] 38) :: Y) w) _)
        refine Any.take 0 0 rfl rfl rfl rfl rfl (by kernel_rfl) (fun _ _ _ _ _ h => h) (ExS.loadAgg [.slice A284 l284.length c284, vi x285] rfl Try.underlying38 rfl sz38 rfl (fun w hS => by obtain ⟨_, _, _, hs⟩ := hS; exact hs.cells (i := 2) rfl 0 2)) hS0 ?_
        refine Any.take 0 1 rfl rfl rfl rfl rfl (by kernel_rfl) (fun _ _ _ _ _ h => h) (ExS.loadAgg [.slice A287 a6.Add.length c287, .slice A288 a6.Drop.length c288, vu8 a6.Floor, vb a6.Odd, vs a6.Any.Name, vi a6.Any.Kind, vi a6.Any.From, vi a6.Any.To] rfl Try.underlying32 rfl sz32 rfl (fun w hS => by obtain ⟨_, _, _, hs⟩ := hS; exact hs.cells (i := 1) rfl 0 8)) hS0 ?_
        refine Any.all [2, 7] (by kernel_rfl) rfl (fun i hi => ?_)
        simp only [List.mem_cons, List.not_mem_nil, or_false] at hi
        rcases hi with rfl | rfl
        · skip
          obtain ⟨y334, hy334, hf⟩ := bnd hf
          refine ⟨_, rfl, rfl, One.of_ops rfl ?_⟩
          refine Ops.call rfl rfl Try.func12 (by kernel_rfl) (by kernel_rfl) rfl (go_law10_Step_Edit.walk (p0 := a6) (hst := hst333) (f1 := f287) (f2 := f288) (hf := hy334)) ?_
          rintro _ w334 ⟨z334, A335, c335, A336, c336, rfl, hz334, f335, f336, hst334⟩
          refine ⟨_, rfl, Ops.stop ?_⟩
          replace f5 := f5.mono hz334; replace f295 := f295.mono hz334; replace f287 := f287.mono hz334; replace f288 := f288.mono hz334; replace f284 := f284.mono hz334
          replace hy286_0 := hy286_0.trans hz334
          replace hz286 := hz286.trans hz334
          replace hm327 := hm327.trans hz334
          have hS0 := (⟨_, _, hm327, (St.up (St.up (St.up hst334 2 rfl) 2 rfl) 2 rfl)⟩ : (fun w => ∃ ζ Y, Le z283 ζ ∧ Ht w0 (frz ζ :: (blk g296 [.slice A287 a6.Add.length c287, .slice A288 a6.Drop.length c288, vu8 a6.Floor, vb a6.Odd, vs a6.Any.Name, vi a6.Any.Kind, vi a6.Any.From, vi a6.Any.To] 32) :: (blk g4 [.slice A284 l284.length c284, vi x285] 38) :: Y) w) _)
          refine ⟨⟨.inr (fun _ => hS0), trivial⟩, ?_⟩
          refine Any.all [3, 7] (by kernel_rfl) rfl (fun i hi => ?_)
          simp only [List.mem_cons, List.not_mem_nil, or_false] at hi
          rcases hi with rfl | rfl
          · skip
            obtain ⟨y338, hy338, hf⟩ := bnd hf
            refine ⟨_, rfl, rfl, One.of_ops rfl ?_⟩
            refine Ops.call rfl rfl Try.func15 (by kernel_rfl) (by kernel_rfl) rfl (go_edits_Do.walk (p0 := (⟨l284, x285⟩ : editsSet)) (p1 := y334) (hst := hst334) (f1 := f284) (f3 := f335) (f4 := f336) (hf := hy338)) ?_
            rintro _ w338 ⟨z338, A339, c339, rfl, hz338, f339, hst338⟩
            refine ⟨_, rfl, Ops.stop ?_⟩
            replace f5 := f5.mono hz338; replace f295 := f295.mono hz338; replace f287 := f287.mono hz338; replace f288 := f288.mono hz338; replace f284 := f284.mono hz338; replace f335 := f335.mono hz338; replace f336 := f336.mono hz338
            replace hy286_0 := hy286_0.trans hz338
            replace hz286 := hz286.trans hz338
            replace hm327 := hm327.trans hz338
            have hS0 := (⟨_, _, hm327, (St.up (St.up (St.up hst338 2 rfl) 2 rfl) 2 rfl)⟩ : (fun w => ∃ ζ Y, Le z283 ζ ∧ Ht w0 (frz ζ :: (blk g296 [.slice A287 a6.Add.length c287, .slice A288 a6.Drop.length c288, vu8 a6.Floor, vb a6.Odd, vs a6.Any.Name, vi a6.Any.Kind, vi a6.Any.From, vi a6.Any.To] 32) :: (blk g4 [.slice A284 l284.length c284, vi x285] 38) :: Y) w) _)
            refine ⟨⟨.inr (fun _ => hS0), trivial⟩, ?_⟩
            refine Any.takeE 4 rfl rfl rfl rfl (by kernel_rfl) (fun _ _ _ _ _ h => h) ((Ex.move rfl).s) ?_
            refine Any.takeE 5 rfl rfl rfl rfl (by kernel_rfl) (fun _ _ _ _ _ h => h) ((Ex.extract rfl rfl).s) ?_
            refine Any.takeE 6 rfl rfl rfl rfl (by kernel_rfl) (fun _ _ _ _ _ h => h) ((Ex.extract rfl rfl).s) ?_
            refine Any.one 7 (by kernel_rfl) rfl rfl (One.of_ops rfl ?_)
            refine Ops.allocF [.slice none 0 0, vi 0] hst338 zr38 rfl rfl (fun g342 w342 hst342 => Ops.stop ?_)
            have hS0 := (⟨_, _, hm327, (St.up (St.up (St.up hst342 3 rfl) 3 rfl) 2 rfl)⟩ : (fun w => ∃ ζ Y, Le z283 ζ ∧ Ht w0 (frz ζ :: (blk g296 [.slice A287 a6.Add.length c287, .slice A288 a6.Drop.length c288, vu8 a6.Floor, vb a6.Odd, vs a6.Any.Name, vi a6.Any.Kind, vi a6.Any.From, vi a6.Any.To] 32) :: (blk g4 [.slice A284 l284.length c284, vi x285] 38) :: Y) w) _)
            refine ⟨⟨.inr (fun _ => hS0), trivial⟩, ?_⟩
            refine Any.one 8 (by kernel_rfl) rfl rfl (One.of_ops rfl ?_)
            refine Ops.store 1 [.slice A339 y338.1.Refs.length c339, vi y338.1.Floor] hst342 rfl rfl rfl rfl sz38 rfl (by simp [Value.oneCell']) (by simp) (fun w343 hst343 => Ops.stop ?_)
            have hS0 := (⟨_, _, hm327, (St.up (St.up (St.up hst343 3 rfl) 3 rfl) 2 rfl)⟩ : (fun w => ∃ ζ Y, Le z283 ζ ∧ Ht w0 (frz ζ :: (blk g296 [.slice A287 a6.Add.length c287, .slice A288 a6.Drop.length c288, vu8 a6.Floor, vb a6.Odd, vs a6.Any.Name, vi a6.Any.Kind, vi a6.Any.From, vi a6.Any.To] 32) :: (blk g4 [.slice A284 l284.length c284, vi x285] 38) :: Y) w) _)
            refine ⟨⟨.inr (fun _ => hS0), trivial⟩, ?_⟩
            refine Any.takeE 9 rfl rfl rfl rfl (by kernel_rfl) (fun _ _ _ _ _ h => h) ((Ex.assign rfl).s) ?_
            refine Any.done (by kernel_rfl) ?_
            exact Run.sub (by exact subB_spec ⟨rfl, rfl, rfl, rfl, rfl, rfl, trivial⟩) (hj298 _ _ ⟨y338.2, y338.1.Refs, y338.1.Floor, g342, A339, c339, z338, hf, rfl, hm327, hy286_0, hz286, f339, (St.up (St.up (St.up (St.forget hst343 2) 1 rfl) 2 rfl) 2 rfl)⟩)
          · skip
            refine ⟨_, rfl, rfl, One.of_ops rfl ?_⟩
            refine Ops.allocF [.slice none 0 0, vi 0] hst334 zr38 rfl rfl (fun g344 w344 hst344 => Ops.stop ?_)
            have hS0 := (⟨_, _, hm327, (St.up (St.up (St.up hst344 3 rfl) 3 rfl) 2 rfl)⟩ : (fun w => ∃ ζ Y, Le z283 ζ ∧ Ht w0 (frz ζ :: (blk g296 [.slice A287 a6.Add.length c287, .slice A288 a6.Drop.length c288, vu8 a6.Floor, vb a6.Odd, vs a6.Any.Name, vi a6.Any.Kind, vi a6.Any.From, vi a6.Any.To] 32) :: (blk g4 [.slice A284 l284.length c284, vi x285] 38) :: Y) w) _)
            refine ⟨⟨.inr (fun _ => hS0), trivial⟩, ?_⟩
            obtain ⟨y345, hy345, hf⟩ := bnd hf
            refine Any.one 3 (by kernel_rfl) rfl rfl (One.of_ops rfl ?_)
            refine Ops.call rfl rfl Try.func15 (by kernel_rfl) (by kernel_rfl) rfl (go_edits_Do.walk (p0 := (⟨l284, x285⟩ : editsSet)) (p1 := y334) (hst := hst344) (f1 := f284) (f3 := f335) (f4 := f336) (hf := hy345)) ?_
            rintro _ w345 ⟨z345, A346, c346, rfl, hz345, f346, hst345⟩
            refine ⟨_, rfl, Ops.stop ?_⟩
            replace f5 := f5.mono hz345; replace f295 := f295.mono hz345; replace f287 := f287.mono hz345; replace f288 := f288.mono hz345; replace f284 := f284.mono hz345; replace f335 := f335.mono hz345; replace f336 := f336.mono hz345
            replace hy286_0 := hy286_0.trans hz345
            replace hz286 := hz286.trans hz345
            replace hm327 := hm327.trans hz345
            have hS0 := (⟨_, _, hm327, (St.up (St.up (St.up hst345 3 rfl) 3 rfl) 2 rfl)⟩ : (fun w => ∃ ζ Y, Le z283 ζ ∧ Ht w0 (frz ζ :: (blk g296 [.slice A287 a6.Add.length c287, .slice A288 a6.Drop.length c288, vu8 a6.Floor, vb a6.Odd, vs a6.Any.Name, vi a6.Any.Kind, vi a6.Any.From, vi a6.Any.To] 32) :: (blk g4 [.slice A284 l284.length c284, vi x285] 38) :: Y) w) _)
            refine ⟨⟨.inr (fun _ => hS0), trivial⟩, ?_⟩
            refine Any.takeE 4 rfl rfl rfl rfl (by kernel_rfl) (fun _ _ _ _ _ h => h) ((Ex.move rfl).s) ?_
            refine Any.takeE 5 rfl rfl rfl rfl (by kernel_rfl) (fun _ _ _ _ _ h => h) ((Ex.extract rfl rfl).s) ?_
            refine Any.takeE 6 rfl rfl rfl rfl (by kernel_rfl) (fun _ _ _ _ _ h => h) ((Ex.extract rfl rfl).s) ?_
            refine Any.one 8 (by kernel_rfl) rfl rfl (One.of_ops rfl ?_)
            refine Ops.store 1 [.slice A346 y345.1.Refs.length c346, vi y345.1.Floor] hst345 rfl rfl rfl rfl sz38 rfl (by simp [Value.oneCell']) (by simp) (fun w349 hst349 => Ops.stop ?_)
            have hS0 := (⟨_, _, hm327, (St.up (St.up (St.up hst349 3 rfl) 3 rfl) 2 rfl)⟩ : (fun w => ∃ ζ Y, Le z283 ζ ∧ Ht w0 (frz ζ :: (blk g296 [.slice A287 a6.Add.length c287, .slice A288 a6.Drop.length c288, vu8 a6.Floor, vb a6.Odd, vs a6.Any.Name, vi a6.Any.Kind, vi a6.Any.From, vi a6.Any.To] 32) :: (blk g4 [.slice A284 l284.length c284, vi x285] 38) :: Y) w) _)
            refine ⟨⟨.inr (fun _ => hS0), trivial⟩, ?_⟩
            refine Any.takeE 9 rfl rfl rfl rfl (by kernel_rfl) (fun _ _ _ _ _ h => h) ((Ex.assign rfl).s) ?_
            refine Any.done (by kernel_rfl) ?_
            exact Run.sub (by exact subB_spec ⟨rfl, rfl, rfl, rfl, rfl, rfl, trivial⟩) (hj298 _ _ ⟨y345.2, y345.1.Refs, y345.1.Floor, g344, A346, c346, z345, hf, rfl, hm327, hy286_0, hz286, f346, (St.up (St.up (St.up (St.forget hst349 2) 1 rfl) 2 rfl) 2 rfl)⟩)
        · skip
          refine ⟨_, rfl, rfl, One.of_ops rfl ?_⟩
          refine Ops.allocF [.slice none 0 0, vi 0] hst333 zr38 rfl rfl (fun g350 w350 hst350 => Ops.stop ?_)
          have hS0 := (⟨_, _, (Le.refl _), (St.up (St.up (St.up hst350 3 rfl) 3 rfl) 2 rfl)⟩ : (fun w => ∃ ζ Y, Le z283 ζ ∧ Ht w0 (frz ζ :: (blk g296 [.slice A287 a6.Add.length c287, .slice A288 a6.Drop.length c288, vu8 a6.Floor, vb a6.Odd, vs a6.Any.Name, vi a6.Any.Kind, vi a6.Any.From, vi a6.Any.To] 32) :: (blk g4 [.slice A284 l284.length c284, vi x285] 38) :: Y) w) _)
          refine ⟨⟨.inr (fun _ => hS0), trivial⟩, ?_⟩
          obtain ⟨y351, hy351, hf⟩ := bnd hf
          refine Any.one 2 (by kernel_rfl) rfl rfl (One.of_ops rfl ?_)
          refine Ops.call rfl rfl Try.func12 (by kernel_rfl) (by kernel_rfl) rfl (go_law10_Step_Edit.walk (p0 := a6) (hst := hst350) (f1 := f287) (f2 := f288) (hf := hy351)) ?_
          rintro _ w351 ⟨z351, A352, c352, A353, c353, rfl, hz351, f352, f353, hst351⟩
          refine ⟨_, rfl, Ops.stop ?_⟩
          replace f5 := f5.mono hz351; replace f295 := f295.mono hz351; replace f287 := f287.mono hz351; replace f288 := f288.mono hz351; replace f284 := f284.mono hz351
          replace hy286_0 := hy286_0.trans hz351
          replace hz286 := hz286.trans hz351
          replace hm327 := hm327.trans hz351
          have hS0 := (⟨_, _, hm327, (St.up (St.up (St.up hst351 3 rfl) 3 rfl) 2 rfl)⟩ : (fun w => ∃ ζ Y, Le z283 ζ ∧ Ht w0 (frz ζ :: (blk g296 [.slice A287 a6.Add.length c287, .slice A288 a6.Drop.length c288, vu8 a6.Floor, vb a6.Odd, vs a6.Any.Name, vi a6.Any.Kind, vi a6.Any.From, vi a6.Any.To] 32) :: (blk g4 [.slice A284 l284.length c284, vi x285] 38) :: Y) w) _)
          refine ⟨⟨.inr (fun _ => hS0), trivial⟩, ?_⟩
          obtain ⟨y355, hy355, hf⟩ := bnd hf
          refine Any.one 3 (by kernel_rfl) rfl rfl (One.of_ops rfl ?_)
          refine Ops.call rfl rfl Try.func15 (by kernel_rfl) (by kernel_rfl) rfl (go_edits_Do.walk (p0 := (⟨l284, x285⟩ : editsSet)) (p1 := y351) (hst := hst351) (f1 := f284) (f3 := f352) (f4 := f353) (hf := hy355)) ?_
          rintro _ w355 ⟨z355, A356, c356, rfl, hz355, f356, hst355⟩
          refine ⟨_, rfl, Ops.stop ?_⟩
          replace f5 := f5.mono hz355; replace f295 := f295.mono hz355; replace f287 := f287.mono hz355; replace f288 := f288.mono hz355; replace f284 := f284.mono hz355; replace f352 := f352.mono hz355; replace f353 := f353.mono hz355
          replace hy286_0 := hy286_0.trans hz355
          replace hz286 := hz286.trans hz355
          replace hm327 := hm327.trans hz355
          have hS0 := (⟨_, _, hm327, (St.up (St.up (St.up hst355 3 rfl) 3 rfl) 2 rfl)⟩ : (fun w => ∃ ζ Y, Le z283 ζ ∧ Ht w0 (frz ζ :: (blk g296 [.slice A287 a6.Add.length c287, .slice A288 a6.Drop.length c288, vu8 a6.Floor, vb a6.Odd, vs a6.Any.Name, vi a6.Any.Kind, vi a6.Any.From, vi a6.Any.To] 32) :: (blk g4 [.slice A284 l284.length c284, vi x285] 38) :: Y) w) _)
          refine ⟨⟨.inr (fun _ => hS0), trivial⟩, ?_⟩
          refine Any.takeE 4 rfl rfl rfl rfl (by kernel_rfl) (fun _ _ _ _ _ h => h) ((Ex.move rfl).s) ?_
          refine Any.takeE 5 rfl rfl rfl rfl (by kernel_rfl) (fun _ _ _ _ _ h => h) ((Ex.extract rfl rfl).s) ?_
          refine Any.takeE 6 rfl rfl rfl rfl (by kernel_rfl) (fun _ _ _ _ _ h => h) ((Ex.extract rfl rfl).s) ?_
          refine Any.one 8 (by kernel_rfl) rfl rfl (One.of_ops rfl ?_)
          refine Ops.store 1 [.slice A356 y355.1.Refs.length c356, vi y355.1.Floor] hst355 rfl rfl rfl rfl sz38 rfl (by simp [Value.oneCell']) (by simp) (fun w359 hst359 => Ops.stop ?_)
          have hS0 := (⟨_, _, hm327, (St.up (St.up (St.up hst359 3 rfl) 3 rfl) 2 rfl)⟩ : (fun w => ∃ ζ Y, Le z283 ζ ∧ Ht w0 (frz ζ :: (blk g296 [.slice A287 a6.Add.length c287, .slice A288 a6.Drop.length c288, vu8 a6.Floor, vb a6.Odd, vs a6.Any.Name, vi a6.Any.Kind, vi a6.Any.From, vi a6.Any.To] 32) :: (blk g4 [.slice A284 l284.length c284, vi x285] 38) :: Y) w) _)
          refine ⟨⟨.inr (fun _ => hS0), trivial⟩, ?_⟩
          refine Any.takeE 9 rfl rfl rfl rfl (by kernel_rfl) (fun _ _ _ _ _ h => h) ((Ex.assign rfl).s) ?_
          refine Any.done (by kernel_rfl) ?_
          exact Run.sub (by exact subB_spec ⟨rfl, rfl, rfl, rfl, rfl, rfl, trivial⟩) (hj298 _ _ ⟨y355.2, y355.1.Refs, y355.1.Floor, g350, A356, c356, z355, hf, rfl, hm327, hy286_0, hz286, f356, (St.up (St.up (St.up (St.forget hst359 2) 1 rfl) 2 rfl) 2 rfl)⟩)
      · rintro e' w360 ⟨x330, l331, x332, g329, A331, c331, z328, hf, rfl, hz360, hy360_0, hy360_1, f331, hst360⟩
        replace f5 := f5.mono hz360; replace f284 := f284.mono hz360
        unfold go_law10_EditsAll.j1 at hf
        refine Run.seq ?_
        refine Run.region ?_
        refine Ops.ex (Ex.move rfl) rfl rfl rfl ?_
        refine Ops.ex (Ex.eqlI rfl rfl) rfl rfl rfl ?_
        refine Ops.nil ?_
        refine Run.cond rfl (fun hc => ?_) (fun hc => ?_)
        · replace hf := ifT (dec_T hc) hf
          refine Run.region ?_
          refine Ops.loadAgg _ rfl Try.underlying38 rfl sz38 rfl (hst360.cells (i := 2) rfl 0 2) rfl ?_
          refine Ops.store 1 [.slice A331 l331.length c331, vi x332] hst360 rfl rfl rfl rfl sz38 rfl (by simp [Value.oneCell']) (by simp) (fun w361 hst361 => ?_)
          refine Ops.nil ?_
          refine Run.endBlk ?_
          refine Run.region ?_
          refine Ops.ex (Ex.add rfl rfl) rfl rfl rfl ?_
          refine Ops.ex (Ex.move rfl) rfl rfl rfl ?_
          refine Ops.nil ?_
          refine Run.re 19 rfl (congrArg vi (wr_succ' hl6 hc6)) ?_
          exact Run.sub (by exact subB_spec ⟨rfl, rfl, rfl, rfl, trivial⟩) (Run.stop ⟨l5.length - (i6 + 1), by omega, i6 + 1, l331, x332, A331, c331, z328, rfl, by omega, (hnxb6 _).symm.trans hf, rfl, hy360_1, hy360_0, f331, (St.forget hst361 2)⟩)
        · replace hf := ifF (dec_F hc) hf
          refine Run.skip ?_
          refine Run.endBlk ?_
          refine Run.region ?_
          refine Ops.ex (Ex.add rfl rfl) rfl rfl rfl ?_
          refine Ops.ex (Ex.move rfl) rfl rfl rfl ?_
          refine Ops.nil ?_
          refine Run.re 19 rfl (congrArg vi (wr_succ' hl6 hc6)) ?_
          exact Run.sub (by exact subB_spec ⟨rfl, rfl, rfl, rfl, trivial⟩) (Run.stop ⟨l5.length - (i6 + 1), by omega, i6 + 1, l284, x285, A284, c284, z328, rfl, by omega, (hnxb6 _).symm.trans hf, rfl, hy360_1, hy360_0, f284, (St.forget hst360 2)⟩)
    · replace hf := forL_out hf (nlt_of_dec hc)
      try dsimp only at hf
      refine Run.exit _ rfl ?_
      refine Run.seq ?_
      refine Run.region ?_
      refine Ops.ex (Ex.build [.slice none 0 0, vi 0] rfl Try.underlying38 zr38 (pl38 Try.underlying38) (by kernel_rfl)) rfl rfl rfl ?_
      refine Ops.loadAgg _ rfl Try.underlying38 rfl sz38 rfl (hst286.cells (i := 1) rfl 0 2) rfl ?_
      obtain ⟨y362, hy362, hf⟩ := bnd hf
      refine Ops.call rfl rfl Try.func17 (by kernel_rfl) (by kernel_rfl) rfl (go_edits_All.walk (p0 := (⟨l284, x285⟩ : editsSet)) (hst := hst286) (f1 := f284) (hf := hy362)) ?_
      rintro _ w362 ⟨z362, A363, c363, A364, c364, rfl, hz362, f363, f364, hst362⟩
      refine ⟨_, rfl, ?_⟩
      replace f5 := f5.mono hz362; replace f284 := f284.mono hz362
      replace hy286_0 := hy286_0.trans hz362
      replace hz286 := hz286.trans hz362
      obtain ⟨y366, hy366, hf⟩ := bnd hf
      refine Ops.call rfl rfl Try.func15 (by kernel_rfl) (by kernel_rfl) rfl (go_edits_Do.walk (p0 := (⟨[], 0⟩ : editsSet)) (p1 := y362) (hst := hst362) (f1 := Sl.nil _ _) (f3 := f363) (f4 := f364) (hf := hy366)) ?_
      rintro _ w366 ⟨z366, A367, c367, rfl, hz366, f367, hst366⟩
      refine ⟨_, rfl, ?_⟩
      replace f5 := f5.mono hz366; replace f284 := f284.mono hz366; replace f363 := f363.mono hz366; replace f364 := f364.mono hz366
      replace hy286_0 := hy286_0.trans hz366
      replace hz286 := hz286.trans hz366
      refine Ops.ex (Ex.move rfl) rfl rfl rfl ?_
      refine Ops.ex (Ex.extract rfl rfl) rfl rfl rfl ?_
      refine Ops.ex (Ex.extract rfl rfl) rfl rfl rfl ?_
      refine Ops.allocF [.slice none 0 0, vi 0] hst366 zr38 rfl rfl (fun g370 w370 hst370 => ?_)
      refine Ops.store 1 [.slice A367 y366.1.Refs.length c367, vi y366.1.Floor] hst370 rfl rfl rfl rfl sz38 rfl (by simp [Value.oneCell']) (by simp) (fun w371 hst371 => ?_)
      refine Ops.ex (Ex.assign rfl) rfl rfl rfl ?_
      refine Ops.nil ?_
      refine Run.seq ?_
      refine Run.seq ?_
      refine Run.region ?_
      refine Ops.ex (Ex.move rfl) rfl rfl rfl ?_
      refine Ops.ex (Ex.neqI rfl rfl) rfl rfl rfl ?_
      refine Ops.ex (Ex.move rfl) rfl rfl rfl ?_
      refine Ops.case 43 rfl (fun hc => ?_) (fun hc => ?_)
      · replace hf := ifF (neq_T hc) hf
        refine Ops.off rfl rfl ?_
        refine Ops.off rfl rfl ?_
        refine Ops.off rfl rfl ?_
        refine Ops.off rfl rfl ?_
        refine Ops.off rfl rfl ?_
        refine Ops.ex (Ex.pickT rfl rfl) rfl rfl rfl ?_
        refine Ops.ex (Ex.move rfl) rfl rfl rfl ?_
        refine Ops.off rfl rfl ?_
        refine Ops.off rfl rfl ?_
        refine Ops.off rfl rfl ?_
        refine Ops.off rfl rfl ?_
        refine Ops.off rfl rfl ?_
        refine Ops.off rfl rfl ?_
        refine Ops.off rfl rfl ?_
        refine Ops.ex (Ex.pickT rfl rfl) rfl rfl rfl ?_
        refine Ops.nil ?_
        refine Run.condT rfl rfl ?_
        refine Run.seq ?_
        refine Run.region ?_
        refine Ops.ex (Ex.assign rfl) rfl rfl rfl ?_
        refine Ops.nil ?_
        obtain rfl := Option.some.inj hf
        exact Run.retV [vb false] rfl ⟨rfl, trivial⟩ ⟨z366, rfl, hy286_0, (St.forget (St.forget hst371 2) 1)⟩
      · replace hf := ifT (neq_F hc) hf
        refine Ops.on rfl ?_
        refine Ops.ex (Ex.fieldAddr rfl Try.underlying38 rfl sz3) rfl rfl rfl ?_
        refine Ops.on rfl ?_
        refine Ops.load rfl Try.underlying3 rfl (hst371.cell (i := 1) rfl rfl) rfl ?_
        refine Ops.on rfl ?_
        refine Ops.ex (Ex.fieldAddr rfl Try.underlying38 rfl sz3) rfl rfl rfl ?_
        refine Ops.on rfl ?_
        refine Ops.load rfl Try.underlying3 rfl (hst371.cell (i := 2) rfl rfl) rfl ?_
        refine Ops.on rfl ?_
        refine Ops.ex (Ex.neqI rfl rfl) rfl rfl rfl ?_
        refine Ops.ex (Ex.pickF rfl rfl) rfl rfl rfl ?_
        refine Ops.ex (Ex.move rfl) rfl rfl rfl ?_
        refine Ops.case 50 rfl (fun hc => ?_) (fun hc => ?_)
        · replace hf := ifF (neq_T hc) hf
          refine Ops.off rfl rfl ?_
          refine Ops.off rfl rfl ?_
          refine Ops.off rfl rfl ?_
          refine Ops.off rfl rfl ?_
          refine Ops.off rfl rfl ?_
          refine Ops.off rfl rfl ?_
          refine Ops.off rfl rfl ?_
          refine Ops.ex (Ex.pickT rfl rfl) rfl rfl rfl ?_
          refine Ops.nil ?_
          refine Run.condT rfl rfl ?_
          refine Run.seq ?_
          refine Run.region ?_
          refine Ops.ex (Ex.assign rfl) rfl rfl rfl ?_
          refine Ops.nil ?_
          obtain rfl := Option.some.inj hf
          exact Run.retV [vb false] rfl ⟨rfl, trivial⟩ ⟨z366, rfl, hy286_0, (St.forget (St.forget hst371 2) 1)⟩
        · replace hf := ifT (neq_F hc) hf
          refine Ops.on rfl ?_
          refine Ops.ex (Ex.fieldAddr rfl Try.underlying38 rfl sz26) rfl rfl rfl ?_
          refine Ops.on rfl ?_
          refine Ops.load rfl Try.underlying26 rfl (hst371.cell (i := 1) rfl rfl) rfl ?_
          refine Ops.on rfl ?_
          refine Ops.ex (Ex.len' rfl rfl rfl Try.underlying26) rfl rfl rfl ?_
          refine Ops.on rfl ?_
          refine Ops.ex (Ex.fieldAddr rfl Try.underlying38 rfl sz26) rfl rfl rfl ?_
          refine Ops.on rfl ?_
          refine Ops.load rfl Try.underlying26 rfl (hst371.cell (i := 2) rfl rfl) rfl ?_
          refine Ops.on rfl ?_
          refine Ops.ex (Ex.len' rfl rfl rfl Try.underlying26) rfl rfl rfl ?_
          refine Ops.on rfl ?_
          refine Ops.ex (Ex.neqI rfl rfl) rfl rfl rfl ?_
          refine Ops.ex (Ex.pickF rfl rfl) rfl rfl rfl ?_
          refine Ops.nil ?_
          refine Run.cond rfl (fun hc => ?_) (fun hc => ?_)
          · replace hf := ifF (neq_T hc) hf
            refine Run.seq ?_
            refine Run.region ?_
            refine Ops.ex (Ex.assign rfl) rfl rfl rfl ?_
            refine Ops.nil ?_
            obtain rfl := Option.some.inj hf
            exact Run.retV [vb false] rfl ⟨rfl, trivial⟩ ⟨z366, rfl, hy286_0, (St.forget (St.forget hst371 2) 1)⟩
          · replace hf := ifT (neq_F hc) hf
            refine Run.skip ?_
            refine Run.seq ?_
            refine Run.seq ?_
            refine Run.region ?_
            refine Ops.ex (Ex.fieldAddr rfl Try.underlying38 rfl sz26) rfl rfl rfl ?_
            refine Ops.load rfl Try.underlying26 rfl (hst371.cell (i := 2) rfl rfl) rfl ?_
            refine Ops.ex (Ex.len' rfl rfl rfl Try.underlying26) rfl rfl rfl ?_
            refine Ops.ex (Ex.move rfl) rfl rfl rfl ?_
            refine Ops.nil ?_
            refine Run.block ?_
            have hc372 := f284.cap
            have hm373 := Le.refl z366
            refine Run.sub (e' := [(3, .pointer (some ⟨g4, 0, none⟩)), (8, .pointer (some ⟨g370, 0, none⟩)), (61, vi (l284.length : Int)), (62, vi ((0 : Nat) : Int))]) (subB_spec ⟨rfl, rfl, rfl, rfl, trivial⟩) ?_
            refine Run.loop (fun mb372 => (fun e' w' => ∃ (i372 : Nat) (z405 : Zp), mb372 = l284.length - i372 ∧ i372 ≤ l284.length ∧ forL (go_law10_EditsAll.b2 y366) (fun _ => some true) i372 (l284.drop i372) () = some r ∧ e' = [(3, .pointer (some ⟨g4, 0, none⟩)), (8, .pointer (some ⟨g370, 0, none⟩)), (61, vi (l284.length : Int)), (62, vi (i372 : Int))] ∧ Le z366 z405 ∧ Le z0 z405 ∧ Le z2 z405 ∧ Ht w0 (frz z405 :: (blk g370 [.slice A367 y366.1.Refs.length c367, vi y366.1.Floor] 38) :: (blk g4 [.slice A284 l284.length c284, vi x285] 38) :: X) w')) l284.length ⟨0, z366, rfl, Nat.zero_le _, hf, rfl, hm373, hy286_0, hz286, hst371⟩ ?_
            rintro _ e' w406 ⟨i372, z405, rfl, hi372, hf, rfl, hz406, hy406_0, hy406_1, hst406⟩
            replace f367 := f367.mono hz406; replace f284 := f284.mono hz406
            refine Run.seq ?_
            refine Run.region ?_
            refine Ops.ex (Ex.lss rfl rfl) rfl rfl rfl ?_
            refine Ops.nil ?_
            refine Run.seq ?_
            refine Run.cond rfl (fun hc => ?_) (fun hc => ?_)
            · have hl372 := lt_of_dec hc
              obtain ⟨a372, nxb372, ha372, hnxb372, hf⟩ := forL_in hf hl372
              unfold go_law10_EditsAll.b2 at hf
              try dsimp only at hf
              refine Run.skip ?_
              refine Run.seq ?_
              refine Run.block ?_
              refine Run.seq ?_
              refine Run.region ?_
              refine Ops.ex (Ex.move rfl) rfl rfl rfl ?_
              refine Ops.ex (Ex.assign rfl) rfl rfl rfl ?_
              refine Ops.nil ?_
              refine Run.seq ?_
              have hm408 := Le.refl z405
              refine Run.drawH [([], fun w => ∃ ζ Y, Le z405 ζ ∧ Ht w0 (frz ζ :: (blk g370 [.slice A367 y366.1.Refs.length c367, vi y366.1.Floor] 38) :: (blk g4 [.slice A284 l284.length c284, vi x285] 38) :: Y) w)] (by kernel_rfl) hst406 (fun w407 hst407 => ?_)
              have hS0 := (⟨_, _, (Le.refl _), (St.up (St.up (St.up hst407 2 rfl) 2 rfl) 2 rfl)⟩ : (fun w => ∃ ζ Y, Le z405 ζ ∧ Ht w0 (frz ζ :: (blk g370 [.slice A367 y366.1.Refs.length c367, vi y366.1.Floor] 38) :: (blk g4 [.slice A284 l284.length c284, vi x285] 38) :: Y) w) _)
              refine Any.takeE 0 rfl rfl rfl rfl (by kernel_rfl) (fun _ _ _ _ _ h => h) ((Ex.fieldAddr rfl Try.underlying38 rfl sz26).s) ?_
              refine Any.take 0 1 rfl rfl rfl rfl rfl (by kernel_rfl) (fun _ _ _ _ _ h => h) (ExS.load rfl Try.underlying26 rfl (fun w hS => by obtain ⟨_, _, _, hs⟩ := hS; exact hs.cell (i := 2) rfl rfl)) hS0 ?_
              refine Any.takeE 2 rfl rfl rfl rfl (by kernel_rfl) (fun _ _ _ _ _ h => h) ((Ex.move rfl).s) ?_
              obtain ⟨g413, p413, o413, cs413, hA413, ho413, hr413, f413⟩ := SlH.elem f284.toH (atI_nat ha372)
              obtain rfl := hr413
              refine Any.takeE 3 rfl rfl rfl rfl (by kernel_rfl) (fun _ _ _ _ _ h => h) ((Ex.ixA hA413 ho413 (atI_nat ha372) rfl rfl rfl Try.underlying26 sz24).s) ?_
              refine Any.take 0 4 rfl rfl rfl rfl rfl (by kernel_rfl) (fun _ _ _ _ _ h => h) (ExS.loadAgg [vs a372.Name, vi a372.Kind, vi a372.From, vi a372.To] rfl Try.underlying24 rfl sz24 rfl (fun w hS => by obtain ⟨_, _, hz, hs⟩ := hS; exact cells_of_zc rfl (f413.mono (hz.trans hs.le)))) hS0 ?_
              refine Any.takeE 5 rfl rfl rfl rfl (by kernel_rfl) (fun _ _ _ _ _ h => h) ((Ex.fieldAddr rfl Try.underlying38 rfl sz26).s) ?_
              refine Any.take 0 6 rfl rfl rfl rfl rfl (by kernel_rfl) (fun _ _ _ _ _ h => h) (ExS.load rfl Try.underlying26 rfl (fun w hS => by obtain ⟨_, _, _, hs⟩ := hS; exact hs.cell (i := 1) rfl rfl)) hS0 ?_
              refine Any.takeE 7 rfl rfl rfl rfl (by kernel_rfl) (fun _ _ _ _ _ h => h) ((Ex.move rfl).s) ?_
              obtain ⟨y414, hy414, hf⟩ := bnd hf
              obtain ⟨g419, p419, o419, cs419, hA419, ho419, hr419, f419⟩ := SlH.elem f367.toH hy414
              obtain rfl := hr419
              refine Any.takeE 8 rfl rfl rfl rfl (by kernel_rfl) (fun _ _ _ _ _ h => h) ((Ex.ixA hA419 ho419 hy414 rfl rfl rfl Try.underlying26 sz24).s) ?_
              refine Any.take 0 9 rfl rfl rfl rfl rfl (by kernel_rfl) (fun _ _ _ _ _ h => h) (ExS.loadAgg [vs y414.Name, vi y414.Kind, vi y414.From, vi y414.To] rfl Try.underlying24 rfl sz24 rfl (fun w hS => by obtain ⟨_, _, hz, hs⟩ := hS; exact cells_of_zc rfl (f419.mono (hz.trans hs.le)))) hS0 ?_
              refine Any.takeE 10 rfl rfl rfl rfl (by kernel_rfl) (fun _ _ _ _ _ h => h) ((Ex.neqV rfl rfl (eqv24 9998 a372 y414) (by kernel_rfl)).s) ?_
              refine Any.done (by kernel_rfl) ?_
              refine Run.cond rfl (fun hc => ?_) (fun hc => ?_)
              · replace hf := ifF (neq_T hc) hf
                refine Run.seq ?_
                refine Run.region ?_
                refine Ops.ex (Ex.assign rfl) rfl rfl rfl ?_
                refine Ops.nil ?_
                obtain rfl := Option.some.inj hf
                exact Run.retV [vb false] rfl ⟨rfl, trivial⟩ ⟨z405, rfl, hy406_0, (St.forget (St.forget hst407 2) 1)⟩
              · replace hf := ifT (neq_F hc) hf
                refine Run.skip ?_
                refine Run.endBlk ?_
                refine Run.region ?_
                refine Ops.ex (Ex.add rfl rfl) rfl rfl rfl ?_
                refine Ops.ex (Ex.move rfl) rfl rfl rfl ?_
                refine Ops.nil ?_
                refine Run.re 62 rfl (congrArg vi (wr_succ' hl372 hc372)) ?_
                exact Run.sub (by exact subB_spec ⟨rfl, rfl, rfl, rfl, trivial⟩) (Run.stop ⟨l284.length - (i372 + 1), by omega, i372 + 1, z405, rfl, by omega, (hnxb372 _).symm.trans hf, rfl, hz406, hy406_0, hy406_1, hst407⟩)
            · replace hf := forL_out hf (nlt_of_dec hc)
              try dsimp only at hf
              refine Run.exit _ rfl ?_
              refine Run.seq ?_
              refine Run.region ?_
              refine Ops.ex (Ex.assign rfl) rfl rfl rfl ?_
              refine Ops.nil ?_
              obtain rfl := Option.some.inj hf
              exact Run.retV [vb true] rfl ⟨rfl, trivial⟩ ⟨z405, rfl, hy406_0, (St.forget (St.forget hst406 2) 1)⟩
end Go.Proofs.Ytjlhookdigbjhaa.E3
