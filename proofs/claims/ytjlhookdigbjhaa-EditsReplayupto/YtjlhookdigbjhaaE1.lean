/- Edits: Clone, Delete, name. -/
import Derived.Test.YtjlhookdigbjhaaProg
import Derived.Test.YtjlhookdigbjhaaGnE
namespace Go.Proofs.Ytjlhookdigbjhaa.E1
open Go Go.RowKit Go.Proofs.Ytjlhookdigbjhaa.Sx
set_option linter.unusedVariables false
set_option linter.unusedSimpArgs false
structure apiRef where
  Name : Str
  Kind : Int
  From : Int
  To : Int
  deriving DecidableEq
def tapiRef : Ty apiRef where
  sz := 4
  R := fun ζ cs x => cs = [vs x.Name, vi x.Kind, vi x.From, vi x.To]
  len := by rintro ζ cs x rfl; rfl
  one := by
    rintro ζ cs x rfl u hu
    simp only [List.mem_cons, List.not_mem_nil, or_false] at hu
    rcases hu with rfl | rfl | rfl | rfl <;> rfl
  mono := by rintro ζ ζ' cs x rfl hl; exact rfl
theorem sz24 : (Try.prog.info? 24).map (·.size) = some 4 := by kernel_rfl
theorem inf24 : (Try.prog.info? 24).map (fun i => (i.zero, i.size, i.bytes)) = some (some (.agg #[.string ⟨#[]⟩, .int .i64 0, .int .i64 0, .int .i64 0]), 4, 40) := by kernel_rfl
theorem zr24 : (Try.prog.info? 24).map (·.zero) = some (some (.agg #[.string ⟨#[]⟩, .int .i64 0, .int .i64 0, .int .i64 0])) := by kernel_rfl
def go_slices_Clone_api_Ref_api_Ref (p0 : List apiRef) : Option (List apiRef) :=
  (apB 40 [] p0).bind fun l5 => some l5
set_option maxRecDepth 100000 in
set_option maxHeartbeats 4000000 in
theorem go_slices_Clone_api_Ref_api_Ref.walk {w0 w : World} {X : List Res} {z0 : Zp} {p0 : List apiRef} {A1 : Option Addr} {c1 : Nat} {r : List apiRef} (hst : Ht w0 (frz z0 :: X) w) (f1 : Sl tapiRef z0 A1 c1 p0) (hf : go_slices_Clone_api_Ref_api_Ref p0 = some r) :
    Calls Try.prog 27 #[.slice A1 p0.length c1] w fun e w' => ∃ (z' : Zp) (A9001 : Option Addr) (c9001 : Nat) (d9001 : List Value), e = .returned (.slice A9001 r.length c9001) ∧ Le z0 z' ∧ Cs tapiRef z' d9001 r ∧ Ht w0 (frz z' :: (orow 24 4 (.slice A9001 r.length c9001) r.length d9001) :: X) w' := by
  refine calls_np Try.func27 rfl rfl ?_
  have hle0 := Le.refl z0
  unfold go_slices_Clone_api_Ref_api_Ref at hf
  refine Run.seq ?_
  refine Run.region ?_
  refine Ops.ex (Ex.assign rfl) rfl rfl rfl ?_
  refine Ops.nil ?_
  refine Run.seq ?_
  refine Run.seq ?_
  refine Run.region ?_
  refine Ops.ex (Ex.move rfl) rfl rfl rfl ?_
  refine Ops.ex (Ex.eqlSN rfl rfl Try.underlying26) rfl rfl rfl ?_
  refine Ops.nil ?_
  refine Run.cond rfl (fun hc => ?_) (fun hc => ?_)
  · have hx0 := Sl.nil_of f1 (of_decide_eq_true hc)
    replace hf : (some []) = some r := by rw [hx0] at hf; simpa [apB, cutI] using hf
    refine Run.seq ?_
    refine Run.region ?_
    refine Ops.ex (Ex.assign rfl) rfl rfl rfl ?_
    refine Ops.nil ?_
    have hst2 := St.row0 hst 24 4
    obtain rfl := Option.some.inj hf
    exact Run.retV [.slice none 0 0] rfl ⟨rfl, trivial⟩ ⟨z0, none, 0, [], rfl, hle0, (Cs.nil _ _), hst2⟩
  · skip
    refine Run.skip ?_
    refine Run.seq ?_
    refine Run.region ?_
    refine Ops.sliceE hst Try.underlying26 sz24 rfl (fun A4 w4 hst4 => ?_)
    refine Ops.ex (Ex.move rfl) rfl rfl rfl ?_
    obtain ⟨l5, hy5, hf⟩ := bnd hf
    refine Ops.app 1 hst4 rfl (Cs.nil tapiRef _) rfl (f1.at_ hst4) rfl hy5 rfl rfl rfl rfl Try.underlying26 inf24 rfl (by decide) (by decide) rfl (fun A5 c5 d5 w5 f5 hst5 => ?_)
    refine Ops.ex (Ex.assign rfl) rfl rfl rfl ?_
    refine Ops.nil ?_
    obtain rfl := Option.some.inj hf
    exact Run.retV [.slice A5 l5.length c5] rfl ⟨rfl, trivial⟩ ⟨z0, A5, c5, d5, rfl, hle0, f5, hst5⟩
def go_slices_Delete_api_Ref_api_Ref (p0 : List apiRef) (p1 : Int) (p2 : Int) : Option (List apiRef) :=
  (cutI p0 p1 p2).bind fun l4 => (cap3 p0.length p2 (p0.length : Int)).bind fun _ => if p1 = p2 then (some p0) else ((cutI p0 0 p1).bind fun l6 => (cutI p0 p2 (p0.length : Int)).bind fun l7 => (apB 40 l6 l7).bind fun l8 => some l8)
set_option maxRecDepth 100000 in
set_option maxHeartbeats 4000000 in
theorem go_slices_Delete_api_Ref_api_Ref.walk {w0 w : World} {X : List Res} {z0 : Zp} {p0 : List apiRef} {A1 : Option Addr} {c1 : Nat} {d1 : List Value} {p1 : Int} {p2 : Int} {r : List apiRef} (hst : Ht w0 (frz z0 :: (orow 24 4 (.slice A1 p0.length c1) p0.length d1) :: X) w) (f1 : Cs tapiRef z0 d1 p0) (hf : go_slices_Delete_api_Ref_api_Ref p0 p1 p2 = some r) :
    Calls Try.prog 28 #[.slice A1 p0.length c1, vi p1, vi p2] w fun e w' => ∃ (z' : Zp) (A9001 : Option Addr) (c9001 : Nat) (d9001 : List Value), e = .returned (.slice A9001 r.length c9001) ∧ Le z0 z' ∧ Cs tapiRef z' d9001 r ∧ Ht w0 (frz z' :: (orow 24 4 (.slice A9001 r.length c9001) r.length d9001) :: X) w' := by
  refine calls_np Try.func28 rfl rfl ?_
  have hle0 := Le.refl z0
  unfold go_slices_Delete_api_Ref_api_Ref at hf
  refine Run.seq ?_
  refine Run.region ?_
  refine Ops.ex (Ex.assign rfl) rfl rfl rfl ?_
  refine Ops.nil ?_
  refine Run.seq ?_
  refine Run.region ?_
  refine Ops.ex (Ex.move rfl) rfl rfl rfl ?_
  refine Ops.ex (Ex.move rfl) rfl rfl rfl ?_
  refine Ops.ex (Ex.move rfl) rfl rfl rfl ?_
  refine Ops.ex (Ex.move rfl) rfl rfl rfl ?_
  refine Ops.ex (Ex.len' rfl rfl rfl Try.underlying26) rfl rfl rfl ?_
  obtain ⟨l4, hy4, hf⟩ := bnd hf
  obtain ⟨_, hq4, hf⟩ := bnd hf
  replace hq4 := cap3_some hq4
  skip
  obtain ⟨hl4, _⟩ := own_room f1 rfl (hst.get (i := 1) rfl)
  refine Ops.ex (Ex.sub3 hl4 hy4 hq4 rfl rfl Try.underlying26 sz24 rfl rfl rfl) rfl rfl rfl ?_
  refine Ops.nil ?_
  refine Run.seq ?_
  refine Run.seq ?_
  refine Run.region ?_
  refine Ops.ex (Ex.move rfl) rfl rfl rfl ?_
  refine Ops.ex (Ex.move rfl) rfl rfl rfl ?_
  refine Ops.ex (Ex.eqlI rfl rfl) rfl rfl rfl ?_
  refine Ops.nil ?_
  refine Run.cond rfl (fun hc => ?_) (fun hc => ?_)
  · replace hf := ifT (dec_T hc) hf
    refine Run.seq ?_
    refine Run.region ?_
    refine Ops.ex (Ex.move rfl) rfl rfl rfl ?_
    refine Ops.ex (Ex.assign rfl) rfl rfl rfl ?_
    refine Ops.nil ?_
    obtain rfl := Option.some.inj hf
    exact Run.retV [.slice A1 p0.length c1] rfl ⟨rfl, trivial⟩ ⟨z0, A1, c1, d1, rfl, hle0, f1, hst⟩
  · replace hf := ifF (dec_F hc) hf
    refine Run.skip ?_
    refine Run.seq ?_
    refine Run.region ?_
    refine Ops.ex (Ex.move rfl) rfl rfl rfl ?_
    refine Ops.ex (Ex.len' rfl rfl rfl Try.underlying26) rfl rfl rfl ?_
    refine Ops.ex (Ex.assign rfl) rfl rfl rfl ?_
    refine Ops.nil ?_
    refine Run.seq ?_
    refine Run.drawH [] (by kernel_rfl) hst (fun w5 hst5 => ?_)
    refine Any.takeE 0 rfl rfl rfl rfl (by kernel_rfl) (fun _ _ _ _ _ h => h) ((Ex.move rfl).s) ?_
    refine Any.takeE 1 rfl rfl rfl rfl (by kernel_rfl) (fun _ _ _ _ _ h => h) ((Ex.move rfl).s) ?_
    obtain ⟨l6, hy6, hf⟩ := bnd hf
    obtain ⟨hl6, f6⟩ := own_pre f1 rfl (hst5.get (i := 1) rfl) hy6
    refine Any.takeE 2 rfl rfl rfl rfl (by kernel_rfl) (fun _ _ _ _ _ h => h) ((Ex.preA hl6 hy6 rfl rfl Try.underlying26 sz24 rfl rfl).s) ?_
    refine Any.takeE 3 rfl rfl rfl rfl (by kernel_rfl) (fun _ _ _ _ _ h => h) ((Ex.move rfl).s) ?_
    refine Any.takeE 4 rfl rfl rfl rfl (by kernel_rfl) (fun _ _ _ _ _ h => h) ((Ex.move rfl).s) ?_
    obtain ⟨l7, hy7, hf⟩ := bnd hf
    obtain ⟨A7, c7, hA7, hB7, f7⟩ := own_sub f1 rfl (hst5.get (i := 1) rfl) hy7
    refine Any.takeE 5 rfl rfl rfl rfl (by kernel_rfl) (fun _ _ _ _ _ h => h) ((Ex.subA hA7 hB7 hy7 rfl rfl Try.underlying26 sz24 rfl rfl).s) ?_
    have hv8 := (f7 _ (hst5.get (i := 1) rfl))
    obtain ⟨fC8, hC8⟩ := St.cutRow 1 hst5 rfl f1 rfl hy6 (Nat.le_trans (cut_le hy6 rfl) hl6) (Nat.le_refl _)
    have hst8 : Ht w0 (frz z0 :: (orow 24 4 (.slice A1 l6.length c1) l6.length (List.take (l6.length * 4) d1)) :: X) _ := hC8
    obtain ⟨l8, hy8, hf⟩ := bnd hf
    refine Any.one 6 (by kernel_rfl) rfl rfl (One.of_ops rfl ?_)
    refine Ops.appIn 1 hst8 rfl fC8 rfl hv8 rfl (by (have := cut_all hy4; have := cut_all hy6; have := cut_all hy7; have := (own_room f1 rfl (hst5.get (i := 1) rfl)).1; omega)) hy8 rfl rfl rfl rfl Try.underlying26 inf24 rfl (by decide) (by decide) rfl (fun d8 w8 f8 hr8 hst10 => Ops.stop ?_)
    have hq28 := apB_len hy8
    refine ⟨trivial, ?_⟩
    refine Any.takeE 7 rfl rfl rfl rfl (by kernel_rfl) (fun _ _ _ _ _ h => h) ((Ex.assign rfl).s) ?_
    refine Any.done (by kernel_rfl) ?_
    refine Run.seq ?_
    refine Run.region ?_
    refine Ops.ex (Ex.move rfl) rfl rfl rfl ?_
    refine Ops.ex (Ex.move rfl) rfl rfl rfl ?_
    refine Ops.ex (Ex.len' rfl rfl rfl Try.underlying26) rfl rfl rfl ?_
    refine Ops.ex (Ex.move rfl) rfl rfl rfl ?_
    have hT11 : (l8.length : Int) ≤ (p0.length : Int) ∧ (p0.length : Int) ≤ (c1 : Int) := by (have := cut_all hy4; have := cut_all hy6; have := cut_all hy7; have := apB_len hy8; have := (own_room f8 rfl (hst10.get (i := 1) rfl)).1; omega)
    refine Ops.ex (Ex.cut (i := (l8.length : Int)) (j := (p0.length : Int)) rfl Try.underlying26 sz24 rfl rfl (by omega) hT11.1 hT11.2) rfl rfl rfl ?_
    refine Ops.clearT (m := ((p0.length : Int).toNat - (l8.length : Int).toNat)) (l := l8.length) (c := c1) 1 hst10 rfl rfl (by (have := cut_all hy4; have := cut_all hy6; have := cut_all hy7; have := apB_len hy8; have := (own_room f8 rfl (hst10.get (i := 1) rfl)).1; omega)) rfl rfl rfl Try.underlying26 zr24 rfl (by simp [Value.oneCell', Value.cells]) (fun w12 hst12 => ?_)
    refine Ops.nil ?_
    refine Run.seq ?_
    refine Run.region ?_
    refine Ops.ex (Ex.move rfl) rfl rfl rfl ?_
    refine Ops.ex (Ex.assign rfl) rfl rfl rfl ?_
    refine Ops.nil ?_
    obtain rfl := Option.some.inj hf
    exact Run.retV [.slice A1 l8.length c1] rfl ⟨rfl, trivial⟩ ⟨z0, A1, c1, d8, rfl, hle0, f8, hst12⟩
def go_law10_name (p0 : UInt8) : Option Str :=
  (cutI [97, 98, 99, 100, 101, 102, 103, 104] ((p0 % 8).toNat : Int) (((p0 % 8) + 1).toNat : Int)).bind fun s2 => (catI [110] s2).bind fun s3 => some s3
set_option maxRecDepth 100000 in
set_option maxHeartbeats 4000000 in
theorem go_law10_name.walk {w0 w : World} {X : List Res} {z0 : Zp} {p0 : UInt8} {r : Str} (hst : Ht w0 (frz z0 :: X) w) (hf : go_law10_name p0 = some r) :
    Calls Try.prog 24 #[vu8 p0] w fun e w' => ∃ (z' : Zp), e = .returned (vs r) ∧ Le z0 z' ∧ Ht w0 (frz z' :: X) w' := by
  refine calls_np Try.func24 rfl rfl ?_
  have hle0 := Le.refl z0
  unfold go_law10_name at hf
  refine Run.seq ?_
  refine Run.region ?_
  refine Ops.ex (Ex.assign rfl) rfl rfl rfl ?_
  refine Ops.nil ?_
  refine Run.seq ?_
  refine Run.region ?_
  refine Ops.ex (Ex.move rfl) rfl rfl rfl ?_
  refine Ops.ex (Ex.rem8 (a := p0) (b := 8) rfl rfl (by decide)) rfl rfl rfl ?_
  refine Ops.ex (Ex.move rfl) rfl rfl rfl ?_
  refine Ops.ex (Ex.rem8 (a := p0) (b := 8) rfl rfl (by decide)) rfl rfl rfl ?_
  refine Ops.ex (Ex.add8 (a := (p0 % 8)) (b := 1) rfl rfl) rfl rfl rfl ?_
  obtain ⟨s2, hy2, hf⟩ := bnd hf
  refine Ops.ex (Ex.cutT (s := [97, 98, 99, 100, 101, 102, 103, 104]) hy2 rfl Try.underlying9 rfl rfl) rfl rfl rfl ?_
  obtain ⟨s3, hy3, hf⟩ := bnd hf
  refine Ops.ex (Ex.addT (s := [110]) hy3 rfl rfl) rfl rfl rfl ?_
  refine Ops.ex (Ex.assign rfl) rfl rfl rfl ?_
  refine Ops.nil ?_
  obtain rfl := Option.some.inj hf
  exact Run.retV [vs s3] rfl ⟨rfl, trivial⟩ ⟨z0, rfl, hle0, hst⟩
end Go.Proofs.Ytjlhookdigbjhaa.E1
