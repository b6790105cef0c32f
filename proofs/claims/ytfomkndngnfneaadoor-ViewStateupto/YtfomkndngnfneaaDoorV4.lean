/- View: sorted maps, states. -/
import Derived.Test.YtfomkndngnfneaaDoorV3
import Derived.Test.YtfomkndngnfneaaDoorGnY
import Derived.Test.YtfomkndngnfneaaDoorInsS
import Derived.Test.YtfomkndngnfneaaDoorInsI
namespace Go.Proofs.YtfomkndngnfneaaDoor.V4
open Go Go.RowKit Go.Proofs.YtfomkndngnfneaaDoor.Sx Go.Proofs.YtfomkndngnfneaaDoor.V1 Go.Proofs.YtfomkndngnfneaaDoor.V2 Go.Proofs.YtfomkndngnfneaaDoor.V3
set_option linter.unusedVariables false
set_option linter.unusedSimpArgs false
structure sortedMapintapiSession where
  items_ : List sorteditemintapiSession
  deriving DecidableEq
def tsortedMapintapiSession : Ty sortedMapintapiSession where
  sz := 1
  R := fun ζ cs x => ∃ A0 c0, cs = [.slice A0 x.items_.length c0] ∧ Sl tsorteditemintapiSession ζ A0 c0 x.items_
  len := by rintro ζ cs x ⟨A0, c0, rfl, f0⟩; rfl
  one := by
    rintro ζ cs x ⟨A0, c0, rfl, f0⟩ u hu
    simp only [List.mem_cons, List.not_mem_nil, or_false] at hu
    rcases hu with rfl <;> rfl
  mono := by rintro ζ ζ' cs x ⟨A0, c0, rfl, f0⟩ hl; exact ⟨A0, c0, rfl, f0.mono hl⟩
structure sortedMapstringstring where
  items_ : List sorteditemstringstring
  deriving DecidableEq
def tsortedMapstringstring : Ty sortedMapstringstring where
  sz := 1
  R := fun ζ cs x => ∃ A0 c0, cs = [.slice A0 x.items_.length c0] ∧ Sl tsorteditemstringstring ζ A0 c0 x.items_
  len := by rintro ζ cs x ⟨A0, c0, rfl, f0⟩; rfl
  one := by
    rintro ζ cs x ⟨A0, c0, rfl, f0⟩ u hu
    simp only [List.mem_cons, List.not_mem_nil, or_false] at hu
    rcases hu with rfl <;> rfl
  mono := by rintro ζ ζ' cs x ⟨A0, c0, rfl, f0⟩ hl; exact ⟨A0, c0, rfl, f0.mono hl⟩
structure law06Say where
  Op : UInt8
  Client : UInt8
  Seq : UInt8
  Key : UInt8
  Value : UInt8
  Old : UInt8
  deriving DecidableEq
def tlaw06Say : Ty law06Say where
  sz := 6
  R := fun ζ cs x => cs = [vu8 x.Op, vu8 x.Client, vu8 x.Seq, vu8 x.Key, vu8 x.Value, vu8 x.Old]
  len := by rintro ζ cs x rfl; rfl
  one := by
    rintro ζ cs x rfl u hu
    simp only [List.mem_cons, List.not_mem_nil, or_false] at hu
    rcases hu with rfl | rfl | rfl | rfl | rfl | rfl <;> rfl
  mono := by rintro ζ ζ' cs x rfl hl; exact rfl
theorem sz119 : (Tryd.prog.info? 119).map (·.size) = some 1 := by kernel_rfl
theorem sz125 : (Tryd.prog.info? 125).map (·.size) = some 5 := by kernel_rfl
theorem sz126 : (Tryd.prog.info? 126).map (·.size) = some 1 := by kernel_rfl
theorem sz153 : (Tryd.prog.info? 153).map (·.size) = some 2 := by kernel_rfl
theorem zr98 : (Tryd.prog.info? 98).map (·.zero) = some (some (.agg #[.int .i64 0, .int .i64 0, .int .i64 0, .string ⟨#[]⟩])) := by kernel_rfl
theorem sz98 : (Tryd.prog.info? 98).map (·.size) = some 4 := by kernel_rfl
theorem zr125 : (Tryd.prog.info? 125).map (·.zero) = some (some (.agg #[.int .i64 0, .int .i64 0, .int .i64 0, .int .i64 0, .string ⟨#[]⟩])) := by kernel_rfl
theorem pl125 {fs : Array Field} (h : Tryd.prog.underlying 125 = some (.struct fs)) (w : World) : (fs.mapM fun f => do pure (f.offset, ← sizeOf f.type) : Sem (Array (Nat × Nat))).run Tryd.prog w = .ok #[(0, 1), (1, 4)] w := by
  rw [Tryd.underlying125] at h
  cases h
  kernel_rfl
theorem zr153 : (Tryd.prog.info? 153).map (·.zero) = some (some (.agg #[.string ⟨#[]⟩, .string ⟨#[]⟩])) := by kernel_rfl
theorem pl153 {fs : Array Field} (h : Tryd.prog.underlying 153 = some (.struct fs)) (w : World) : (fs.mapM fun f => do pure (f.offset, ← sizeOf f.type) : Sem (Array (Nat × Nat))).run Tryd.prog w = .ok #[(0, 1), (1, 1)] w := by
  rw [Tryd.underlying153] at h
  cases h
  kernel_rfl
theorem inf153 : (Tryd.prog.info? 153).map (fun i => (i.zero, i.size, i.bytes)) = some (some (.agg #[.string ⟨#[]⟩, .string ⟨#[]⟩]), 2, 32) := by kernel_rfl
theorem zr121 : (Tryd.prog.info? 121).map (·.zero) = some (some (.agg #[.slice none 0 0])) := by kernel_rfl
theorem pl121 {fs : Array Field} (h : Tryd.prog.underlying 121 = some (.struct fs)) (w : World) : (fs.mapM fun f => do pure (f.offset, ← sizeOf f.type) : Sem (Array (Nat × Nat))).run Tryd.prog w = .ok #[(0, 1)] w := by
  rw [Tryd.underlying121] at h
  cases h
  kernel_rfl
theorem sz45 : (Tryd.prog.info? 45).map (·.size) = some 1 := by kernel_rfl
theorem zr128 : (Tryd.prog.info? 128).map (·.zero) = some (some (.agg #[.slice none 0 0])) := by kernel_rfl
theorem pl128 {fs : Array Field} (h : Tryd.prog.underlying 128 = some (.struct fs)) (w : World) : (fs.mapM fun f => do pure (f.offset, ← sizeOf f.type) : Sem (Array (Nat × Nat))).run Tryd.prog w = .ok #[(0, 1)] w := by
  rw [Tryd.underlying128] at h
  cases h
  kernel_rfl
theorem zr44 : (Tryd.prog.info? 44).map (·.zero) = some (some (.slice none 0 0)) := by kernel_rfl
theorem inf49 : (Tryd.prog.info? 49).map (fun i => (i.zero, i.size, i.bytes)) = some (some (.agg #[.string ⟨#[]⟩, .string ⟨#[]⟩, .bool false]), 3, 40) := by kernel_rfl
theorem zr84 : (Tryd.prog.info? 84).map (·.zero) = some (some (.agg #[.int .i64 0, .string ⟨#[]⟩])) := by kernel_rfl
theorem sz77 : (Tryd.prog.info? 77).map (·.size) = some 1 := by kernel_rfl
theorem pl84 {fs : Array Field} (h : Tryd.prog.underlying 84 = some (.struct fs)) (w : World) : (fs.mapM fun f => do pure (f.offset, ← sizeOf f.type) : Sem (Array (Nat × Nat))).run Tryd.prog w = .ok #[(0, 1), (1, 1)] w := by
  rw [Tryd.underlying84] at h
  cases h
  kernel_rfl
theorem sz84 : (Tryd.prog.info? 84).map (·.size) = some 2 := by kernel_rfl
theorem zr79 : (Tryd.prog.info? 79).map (·.zero) = some (some (.agg #[.int .i64 0, .int .i64 0, .int .i64 0, .string ⟨#[]⟩, .string ⟨#[]⟩, .string ⟨#[]⟩])) := by kernel_rfl
theorem sz5 : (Tryd.prog.info? 5).map (·.size) = some 1 := by kernel_rfl
theorem pl79 {fs : Array Field} (h : Tryd.prog.underlying 79 = some (.struct fs)) (w : World) : (fs.mapM fun f => do pure (f.offset, ← sizeOf f.type) : Sem (Array (Nat × Nat))).run Tryd.prog w = .ok #[(0, 1), (1, 1), (2, 1), (3, 1), (4, 1), (5, 1)] w := by
  rw [Tryd.underlying79] at h
  cases h
  kernel_rfl
theorem sz79 : (Tryd.prog.info? 79).map (·.size) = some 6 := by kernel_rfl
set_option maxRecDepth 100000 in
theorem eqv79 (d : Nat) (x y : apiCmd) : EqV Tryd.prog (d + 2) 79 (.agg #[vi x.Op, vi x.Client, vi x.Seq, vs x.Key, vs x.Value, vs x.Old]) (.agg #[vi y.Op, vi y.Client, vi y.Seq, vs y.Key, vs y.Value, vs y.Old]) (decide (x = y)) := by
  refine EqV.re (EqV.agg Tryd.underlying79 (by kernel_rfl) ⟨_, _, _, _, by decide, fun w => rfl, fun w => rfl, EqV.int Tryd.underlying77, ⟨_, _, _, _, by decide, fun w => rfl, fun w => rfl, EqV.int Tryd.underlying3, ⟨_, _, _, _, by decide, fun w => rfl, fun w => rfl, EqV.int Tryd.underlying3, ⟨_, _, _, _, by decide, fun w => rfl, fun w => rfl, EqV.str Tryd.underlying9, ⟨_, _, _, _, by decide, fun w => rfl, fun w => rfl, EqV.str Tryd.underlying9, ⟨_, _, _, _, by decide, fun w => rfl, fun w => rfl, EqV.str Tryd.underlying9, rfl, rfl⟩, rfl⟩, rfl⟩, rfl⟩, rfl⟩, rfl⟩) ?_
  obtain ⟨x0, x1, x2, x3, x4, x5⟩ := x
  obtain ⟨y0, y1, y2, y3, y4, y5⟩ := y
  rw [Bool.eq_iff_iff]
  simp [apiCmd.mk.injEq]
theorem sz81 : (Tryd.prog.info? 81).map (·.size) = some 8 := by kernel_rfl
theorem pl98 {fs : Array Field} (h : Tryd.prog.underlying 98 = some (.struct fs)) (w : World) : (fs.mapM fun f => do pure (f.offset, ← sizeOf f.type) : Sem (Array (Nat × Nat))).run Tryd.prog w = .ok #[(0, 1), (1, 1), (2, 2)] w := by
  rw [Tryd.underlying98] at h
  cases h
  kernel_rfl
theorem inf98 : (Tryd.prog.info? 98).map (fun i => (i.zero, i.size, i.bytes)) = some (some (.agg #[.int .i64 0, .int .i64 0, .int .i64 0, .string ⟨#[]⟩]), 4, 40) := by kernel_rfl
theorem zr81 : (Tryd.prog.info? 81).map (·.zero) = some (some (.agg #[.int .i64 0, .int .i64 0, .int .i64 0, .int .i64 0, .int .i64 0, .string ⟨#[]⟩, .string ⟨#[]⟩, .string ⟨#[]⟩])) := by kernel_rfl
theorem sz88 : (Tryd.prog.info? 88).map (·.size) = some 6 := by kernel_rfl
theorem zr88 : (Tryd.prog.info? 88).map (·.zero) = some (some (.agg #[.int .u8 0, .int .u8 0, .int .u8 0, .int .u8 0, .int .u8 0, .int .u8 0])) := by kernel_rfl
theorem pl81 {fs : Array Field} (h : Tryd.prog.underlying 81 = some (.struct fs)) (w : World) : (fs.mapM fun f => do pure (f.offset, ← sizeOf f.type) : Sem (Array (Nat × Nat))).run Tryd.prog w = .ok #[(0, 1), (1, 1), (2, 6)] w := by
  rw [Tryd.underlying81] at h
  cases h
  kernel_rfl
theorem inf81 : (Tryd.prog.info? 81).map (fun i => (i.zero, i.size, i.bytes)) = some (some (.agg #[.int .i64 0, .int .i64 0, .int .i64 0, .int .i64 0, .int .i64 0, .string ⟨#[]⟩, .string ⟨#[]⟩, .string ⟨#[]⟩]), 8, 88) := by kernel_rfl
def go_cmp_isNaN_int (p0 : Int) : Option Bool :=
  some (!(decide (p0 = p0)))
set_option maxRecDepth 100000 in
set_option maxHeartbeats 4000000 in
theorem go_cmp_isNaN_int.walk {w0 w : World} {X : List Res} {z0 : Zp} {p0 : Int} {r : Bool} (hst : Ht w0 (frz z0 :: X) w) (hf : go_cmp_isNaN_int p0 = some r) :
    Calls Tryd.prog 84 #[vi p0] w fun e w' => ∃ (z' : Zp), e = .returned (vb r) ∧ Le z0 z' ∧ Ht w0 (frz z' :: X) w' := by
  refine calls_np Tryd.func84 rfl rfl ?_
  have hle0 := Le.refl z0
  unfold go_cmp_isNaN_int at hf
  refine Run.seq ?_
  refine Run.region ?_
  refine Ops.ex (Ex.assign rfl) rfl rfl rfl ?_
  refine Ops.nil ?_
  refine Run.seq ?_
  refine Run.region ?_
  refine Ops.ex (Ex.move rfl) rfl rfl rfl ?_
  refine Ops.ex (Ex.move rfl) rfl rfl rfl ?_
  refine Ops.ex (Ex.neqI rfl rfl) rfl rfl rfl ?_
  refine Ops.ex (Ex.assign rfl) rfl rfl rfl ?_
  refine Ops.nil ?_
  obtain rfl := Option.some.inj hf
  exact Run.retV [vb (!(decide (p0 = p0)))] rfl ⟨rfl, trivial⟩ ⟨z0, rfl, hle0, hst⟩
def go_cmp_Compare_int (p0 : Int) (p1 : Int) : Option Int :=
  (go_cmp_isNaN_int p0).bind fun y3 => (go_cmp_isNaN_int p1).bind fun y5 => if y3 then (if y5 then (some 0) else (some (-1))) else (if y5 then (some 1) else (if p0 < p1 then (some (-1)) else (if p1 < p0 then (some 1) else (some 0))))
set_option maxRecDepth 100000 in
set_option maxHeartbeats 4000000 in
theorem go_cmp_Compare_int.walk {w0 w : World} {X : List Res} {z0 : Zp} {p0 : Int} {p1 : Int} {r : Int} (hst : Ht w0 (frz z0 :: X) w) (hf : go_cmp_Compare_int p0 p1 = some r) :
    Calls Tryd.prog 70 #[vi p0, vi p1] w fun e w' => ∃ (z' : Zp), e = .returned (vi r) ∧ Le z0 z' ∧ Ht w0 (frz z' :: X) w' := by
  refine calls_np Tryd.func70 rfl rfl ?_
  have hle0 := Le.refl z0
  unfold go_cmp_Compare_int at hf
  refine Run.seq ?_
  refine Run.region ?_
  refine Ops.ex (Ex.assign rfl) rfl rfl rfl ?_
  refine Ops.nil ?_
  refine Run.seq ?_
  refine Run.region ?_
  refine Ops.ex (Ex.move rfl) rfl rfl rfl ?_
  obtain ⟨y3, hy3, hf⟩ := bnd hf
  refine Ops.call rfl rfl Tryd.func84 (by kernel_rfl) (by kernel_rfl) rfl (go_cmp_isNaN_int.walk (p0 := p0) (hst := hst) (hf := hy3)) ?_
  rintro _ w3 ⟨z3, rfl, hz3, hst3⟩
  refine ⟨_, rfl, ?_⟩
  replace hle0 := hle0.trans hz3
  refine Ops.ex (Ex.assign rfl) rfl rfl rfl ?_
  refine Ops.nil ?_
  refine Run.seq ?_
  refine Run.region ?_
  refine Ops.ex (Ex.move rfl) rfl rfl rfl ?_
  obtain ⟨y5, hy5, hf⟩ := bnd hf
  refine Ops.call rfl rfl Tryd.func84 (by kernel_rfl) (by kernel_rfl) rfl (go_cmp_isNaN_int.walk (p0 := p1) (hst := hst3) (hf := hy5)) ?_
  rintro _ w5 ⟨z5, rfl, hz5, hst5⟩
  refine ⟨_, rfl, ?_⟩
  replace hle0 := hle0.trans hz5
  refine Ops.ex (Ex.assign rfl) rfl rfl rfl ?_
  refine Ops.nil ?_
  refine Run.seq ?_
  refine Run.seq ?_
  refine Run.region ?_
  refine Ops.ex (Ex.move rfl) rfl rfl rfl ?_
  refine Ops.nil ?_
  refine Run.cond rfl (fun hc => ?_) (fun hc => ?_)
  · replace hf := ifTb hc hf
    refine Run.seq ?_
    refine Run.seq ?_
    refine Run.region ?_
    refine Ops.ex (Ex.move rfl) rfl rfl rfl ?_
    refine Ops.nil ?_
    refine Run.cond rfl (fun hc => ?_) (fun hc => ?_)
    · replace hf := ifTb hc hf
      refine Run.seq ?_
      refine Run.region ?_
      refine Ops.ex (Ex.assign rfl) rfl rfl rfl ?_
      refine Ops.nil ?_
      obtain rfl := Option.some.inj hf
      exact Run.retV [vi 0] rfl ⟨rfl, trivial⟩ ⟨z5, rfl, hle0, hst5⟩
    · replace hf := ifFb hc hf
      refine Run.skip ?_
      refine Run.seq ?_
      refine Run.region ?_
      refine Ops.ex (Ex.assign rfl) rfl rfl rfl ?_
      refine Ops.nil ?_
      obtain rfl := Option.some.inj hf
      exact Run.retV [vi (-1)] rfl ⟨rfl, trivial⟩ ⟨z5, rfl, hle0, hst5⟩
  · replace hf := ifFb hc hf
    refine Run.skip ?_
    refine Run.seq ?_
    refine Run.seq ?_
    refine Run.region ?_
    refine Ops.ex (Ex.move rfl) rfl rfl rfl ?_
    refine Ops.nil ?_
    refine Run.cond rfl (fun hc => ?_) (fun hc => ?_)
    · replace hf := ifTb hc hf
      refine Run.seq ?_
      refine Run.region ?_
      refine Ops.ex (Ex.assign rfl) rfl rfl rfl ?_
      refine Ops.nil ?_
      obtain rfl := Option.some.inj hf
      exact Run.retV [vi 1] rfl ⟨rfl, trivial⟩ ⟨z5, rfl, hle0, hst5⟩
    · replace hf := ifFb hc hf
      refine Run.skip ?_
      refine Run.seq ?_
      refine Run.seq ?_
      refine Run.region ?_
      refine Ops.ex (Ex.move rfl) rfl rfl rfl ?_
      refine Ops.ex (Ex.move rfl) rfl rfl rfl ?_
      refine Ops.ex (Ex.lss rfl rfl) rfl rfl rfl ?_
      refine Ops.nil ?_
      refine Run.cond rfl (fun hc => ?_) (fun hc => ?_)
      · replace hf := ifT (dec_T hc) hf
        refine Run.seq ?_
        refine Run.region ?_
        refine Ops.ex (Ex.assign rfl) rfl rfl rfl ?_
        refine Ops.nil ?_
        obtain rfl := Option.some.inj hf
        exact Run.retV [vi (-1)] rfl ⟨rfl, trivial⟩ ⟨z5, rfl, hle0, hst5⟩
      · replace hf := ifF (dec_F hc) hf
        refine Run.skip ?_
        refine Run.seq ?_
        refine Run.seq ?_
        refine Run.region ?_
        refine Ops.ex (Ex.move rfl) rfl rfl rfl ?_
        refine Ops.ex (Ex.move rfl) rfl rfl rfl ?_
        refine Ops.ex (Ex.gtr rfl rfl) rfl rfl rfl ?_
        refine Ops.nil ?_
        refine Run.cond rfl (fun hc => ?_) (fun hc => ?_)
        · replace hf := ifT (dec_T hc) hf
          refine Run.seq ?_
          refine Run.region ?_
          refine Ops.ex (Ex.assign rfl) rfl rfl rfl ?_
          refine Ops.nil ?_
          obtain rfl := Option.some.inj hf
          exact Run.retV [vi 1] rfl ⟨rfl, trivial⟩ ⟨z5, rfl, hle0, hst5⟩
        · replace hf := ifF (dec_F hc) hf
          refine Run.skip ?_
          refine Run.seq ?_
          refine Run.region ?_
          refine Ops.ex (Ex.assign rfl) rfl rfl rfl ?_
          refine Ops.nil ?_
          obtain rfl := Option.some.inj hf
          exact Run.retV [vi 0] rfl ⟨rfl, trivial⟩ ⟨z5, rfl, hle0, hst5⟩
def go_sorted_Map_int_api_Session_find_c1 (p0 : sorteditemintapiSession) (p1 : Int) : Option Int :=
  (go_cmp_Compare_int p0.key_ p1).bind fun y8 => some y8
set_option maxRecDepth 100000 in
set_option maxHeartbeats 4000000 in
theorem go_sorted_Map_int_api_Session_find_c1.walk {w0 w : World} {X : List Res} {z0 : Zp} {p0 : sorteditemintapiSession} {p1 : Int} {r : Int} (hst : Ht w0 (frz z0 :: X) w) (hf : go_sorted_Map_int_api_Session_find_c1 p0 p1 = some r) :
    Calls Tryd.prog 69 #[.agg #[vi p0.key_, vi p0.value_.Client, vi p0.value_.Seq, vi p0.value_.Reply.Err, vs p0.value_.Reply.Value], vi p1] w fun e w' => ∃ (z' : Zp), e = .returned (vi r) ∧ Le z0 z' ∧ Ht w0 (frz z' :: X) w' := by
  refine calls_np Tryd.func69 rfl rfl ?_
  have hle0 := Le.refl z0
  unfold go_sorted_Map_int_api_Session_find_c1 at hf
  refine Run.seq ?_
  refine Run.region ?_
  refine Ops.boxF [vi p0.key_, vi p0.value_.Client, vi p0.value_.Seq, vi p0.value_.Reply.Err, vs p0.value_.Reply.Value] hst rfl rfl rfl (fun g7 w7 hst7 => ?_)
  refine Ops.ex (Ex.assign rfl) rfl rfl rfl ?_
  refine Ops.nil ?_
  refine Run.seq ?_
  refine Run.region ?_
  refine Ops.ex (Ex.fieldAddr rfl Tryd.underlying125 rfl sz3) rfl rfl rfl ?_
  refine Ops.load rfl Tryd.underlying3 rfl (hst7.cell (i := 1) rfl rfl) rfl ?_
  refine Ops.ex (Ex.move rfl) rfl rfl rfl ?_
  obtain ⟨y8, hy8, hf⟩ := bnd hf
  refine Ops.call rfl rfl Tryd.func70 (by kernel_rfl) (by kernel_rfl) rfl (go_cmp_Compare_int.walk (p0 := p0.key_) (p1 := p1) (hst := hst7) (hf := hy8)) ?_
  rintro _ w8 ⟨z8, rfl, hz8, hst8⟩
  refine ⟨_, rfl, ?_⟩
  replace hle0 := hle0.trans hz8
  refine Ops.ex (Ex.assign rfl) rfl rfl rfl ?_
  refine Ops.nil ?_
  obtain rfl := Option.some.inj hf
  exact Run.retV [vi y8] rfl ⟨rfl, trivial⟩ ⟨z8, rfl, hle0, (St.forget hst8 1)⟩
def go_slices_BinarySearchFunc_sorted_item_int_api_Session_sorted_item_int_api_Session_int_sorted_Map_int_api_Session_find_c1.b1 (p0 : List sorteditemintapiSession) (p1 : Int) : (Int × Int) → (Int × Int → Option (Int × Bool)) → Option (Int × Bool) :=
  fun (x50, x51) nxb3 => if x50 < x51 then ((atI p0 (wr ((wrq (wr (x50 + x51))) / 2))).bind fun y53 => (go_sorted_Map_int_api_Session_find_c1 y53 p1).bind fun y60 => if y60 < 0 then (nxb3 (wr ((wr ((wrq (wr (x50 + x51))) / 2)) + 1), x51)) else (nxb3 (x50, wr ((wrq (wr (x50 + x51))) / 2)))) else (if x50 < (p0.length : Int) then ((atI p0 x50).bind fun y62 => (go_sorted_Map_int_api_Session_find_c1 y62 p1).bind fun y69 => some (x50, decide (y69 = 0))) else (some (x50, false)))
def go_slices_BinarySearchFunc_sorted_item_int_api_Session_sorted_item_int_api_Session_int_sorted_Map_int_api_Session_find_c1 (p0 : List sorteditemintapiSession) (p1 : Int) : Option (Int × Bool) :=
  loopF (go_slices_BinarySearchFunc_sorted_item_int_api_Session_sorted_item_int_api_Session_int_sorted_Map_int_api_Session_find_c1.b1 p0 p1) fuel (0, (p0.length : Int))
set_option maxRecDepth 100000 in
set_option maxHeartbeats 4000000 in
theorem go_slices_BinarySearchFunc_sorted_item_int_api_Session_sorted_item_int_api_Session_int_sorted_Map_int_api_Session_find_c1.walk {w0 w : World} {X : List Res} {z0 : Zp} {p0 : List sorteditemintapiSession} {A1 : Option Addr} {c1 : Nat} {p1 : Int} {r : Int × Bool} (hst : Ht w0 (frz z0 :: X) w) (f1 : Sl tsorteditemintapiSession z0 A1 c1 p0) (hf : go_slices_BinarySearchFunc_sorted_item_int_api_Session_sorted_item_int_api_Session_int_sorted_Map_int_api_Session_find_c1 p0 p1 = some r) :
    Calls Tryd.prog 68 #[.slice A1 p0.length c1, vi p1, .func (.func 69) #[] #[]] w fun e w' => ∃ (z' : Zp), e = .returned (.tuple #[vi r.1, vb r.2]) ∧ Le z0 z' ∧ Ht w0 (frz z' :: X) w' := by
  refine calls_np Tryd.func68 rfl rfl ?_
  have hle0 := Le.refl z0
  unfold go_slices_BinarySearchFunc_sorted_item_int_api_Session_sorted_item_int_api_Session_int_sorted_Map_int_api_Session_find_c1 at hf
  refine Run.seq ?_
  refine Run.region ?_
  refine Ops.ex (Ex.assign rfl) rfl rfl rfl ?_
  refine Ops.ex (Ex.assign rfl) rfl rfl rfl ?_
  refine Ops.nil ?_
  refine Run.seq ?_
  refine Run.region ?_
  refine Ops.ex (Ex.move rfl) rfl rfl rfl ?_
  refine Ops.ex (Ex.len' rfl rfl rfl Tryd.underlying119) rfl rfl rfl ?_
  refine Ops.ex (Ex.assign rfl) rfl rfl rfl ?_
  refine Ops.nil ?_
  refine Run.seq ?_
  refine Run.region ?_
  refine Ops.ex (Ex.move rfl) rfl rfl rfl ?_
  refine Ops.ex (Ex.assign rfl) rfl rfl rfl ?_
  refine Ops.ex (Ex.assign rfl) rfl rfl rfl ?_
  refine Ops.nil ?_
  refine Run.seq ?_
  refine Run.block ?_
  refine Run.sub (e' := [(0, .slice A1 p0.length c1), (1, vi p1), (2, .func (.func 69) #[] #[]), (8, vi (p0.length : Int)), (9, vi 0), (10, vi (p0.length : Int))]) (subB_spec ⟨rfl, rfl, rfl, rfl, rfl, rfl, trivial⟩) ?_
  refine Run.loop (fun mb3 => (fun e' w' => ∃ (x50 : Int) (x51 : Int) (z49 : Zp), loopF (go_slices_BinarySearchFunc_sorted_item_int_api_Session_sorted_item_int_api_Session_int_sorted_Map_int_api_Session_find_c1.b1 p0 p1) mb3 (x50, x51) = some r ∧ e' = [(0, .slice A1 p0.length c1), (1, vi p1), (2, .func (.func 69) #[] #[]), (8, vi (p0.length : Int)), (9, vi x50), (10, vi x51)] ∧ Le z0 z49 ∧ Ht w0 (frz z49 :: X) w')) fuel ⟨0, (p0.length : Int), z0, hf, rfl, hle0, hst⟩ ?_
  rintro mb3 e' w52 ⟨x50, x51, z49, hf, rfl, hz52, hst52⟩
  replace f1 := f1.mono hz52
  obtain ⟨mb3', nxb3, rfl, hnxb3, hf⟩ := loopF_in hf
  unfold go_slices_BinarySearchFunc_sorted_item_int_api_Session_sorted_item_int_api_Session_int_sorted_Map_int_api_Session_find_c1.b1 at hf
  try dsimp only at hf
  refine Run.seq ?_
  refine Run.seq ?_
  refine Run.region ?_
  refine Ops.ex (Ex.move rfl) rfl rfl rfl ?_
  refine Ops.ex (Ex.move rfl) rfl rfl rfl ?_
  refine Ops.ex (Ex.lss rfl rfl) rfl rfl rfl ?_
  refine Ops.nil ?_
  refine Run.cond rfl (fun hc => ?_) (fun hc => ?_)
  · replace hf := ifT (dec_T hc) hf
    refine Run.skip ?_
    refine Run.block ?_
    refine Run.seq ?_
    refine Run.region ?_
    refine Ops.ex (Ex.move rfl) rfl rfl rfl ?_
    refine Ops.ex (Ex.move rfl) rfl rfl rfl ?_
    refine Ops.ex (Ex.add rfl rfl) rfl rfl rfl ?_
    refine Ops.ex (Ex.cto64 rfl Tryd.underlying3 Tryd.underlying138) rfl rfl rfl ?_
    refine Ops.ex (Ex.shr (m := 2) rfl rfl (by decide) (by decide) (by decide)) rfl rfl rfl ?_
    refine Ops.ex (Ex.cof64 rfl Tryd.underlying138 Tryd.underlying3) rfl rfl rfl ?_
    refine Ops.ex (Ex.assign rfl) rfl rfl rfl ?_
    refine Ops.nil ?_
    refine Run.seq ?_
    refine Run.region ?_
    refine Ops.ex (Ex.move rfl) rfl rfl rfl ?_
    refine Ops.ex (Ex.move rfl) rfl rfl rfl ?_
    refine Ops.ex (Ex.move rfl) rfl rfl rfl ?_
    obtain ⟨y53, hy53, hf⟩ := bnd hf
    obtain ⟨g59, p59, o59, cs59, hA59, ho59, hr59, f59⟩ := SlH.elem f1.toH hy53
    obtain rfl := hr59
    refine Ops.ex (Ex.ixA hA59 ho59 hy53 rfl rfl rfl Tryd.underlying119 sz125) rfl rfl rfl ?_
    refine Ops.loadAgg [vi y53.key_, vi y53.value_.Client, vi y53.value_.Seq, vi y53.value_.Reply.Err, vs y53.value_.Reply.Value] rfl Tryd.underlying125 rfl sz125 rfl (cells_of_zc rfl (f59.mono hst52.le)) rfl ?_
    refine Ops.ex (Ex.move rfl) rfl rfl rfl ?_
    obtain ⟨y60, hy60, hf⟩ := bnd hf
    refine Ops.call rfl rfl Tryd.func69 (by kernel_rfl) (by kernel_rfl) rfl (go_sorted_Map_int_api_Session_find_c1.walk (p0 := y53) (p1 := p1) (hst := hst52) (hf := hy60)) ?_
    rintro _ w60 ⟨z60, rfl, hz60, hst60⟩
    refine ⟨_, rfl, ?_⟩
    replace f1 := f1.mono hz60; replace f59 := f59.mono hz60
    replace hz52 := hz52.trans hz60
    refine Ops.ex (Ex.lss rfl rfl) rfl rfl rfl ?_
    refine Ops.nil ?_
    refine Run.cond rfl (fun hc => ?_) (fun hc => ?_)
    · replace hf := ifT (dec_T hc) hf
      refine Run.region ?_
      refine Ops.ex (Ex.move rfl) rfl rfl rfl ?_
      refine Ops.ex (Ex.add rfl rfl) rfl rfl rfl ?_
      refine Ops.ex (Ex.assign rfl) rfl rfl rfl ?_
      refine Ops.nil ?_
      refine Run.endBlk ?_
      exact Run.sub (by exact subB_spec ⟨rfl, rfl, rfl, rfl, rfl, rfl, trivial⟩) (Run.stop ⟨mb3', Nat.lt_succ_self _, wr ((wr ((wrq (wr (x50 + x51))) / 2)) + 1), x51, z60, (hnxb3 _).symm.trans hf, rfl, hz52, hst60⟩)
    · replace hf := ifF (dec_F hc) hf
      refine Run.region ?_
      refine Ops.ex (Ex.move rfl) rfl rfl rfl ?_
      refine Ops.ex (Ex.assign rfl) rfl rfl rfl ?_
      refine Ops.nil ?_
      refine Run.endBlk ?_
      exact Run.sub (by exact subB_spec ⟨rfl, rfl, rfl, rfl, rfl, rfl, trivial⟩) (Run.stop ⟨mb3', Nat.lt_succ_self _, x50, wr ((wrq (wr (x50 + x51))) / 2), z60, (hnxb3 _).symm.trans hf, rfl, hz52, hst60⟩)
  · replace hf := ifF (dec_F hc) hf
    refine Run.exit _ rfl ?_
    refine Run.seq ?_
    refine Run.region ?_
    refine Ops.ex (Ex.move rfl) rfl rfl rfl ?_
    refine Ops.ex (Ex.move rfl) rfl rfl rfl ?_
    refine Ops.ex (Ex.move rfl) rfl rfl rfl ?_
    refine Ops.ex (Ex.lss rfl rfl) rfl rfl rfl ?_
    refine Ops.ex (Ex.move rfl) rfl rfl rfl ?_
    refine Ops.case 39 rfl (fun hc => ?_) (fun hc => ?_)
    · replace hf := ifT (dec_T hc) hf
      refine Ops.on rfl ?_
      refine Ops.ex (Ex.move rfl) rfl rfl rfl ?_
      refine Ops.on rfl ?_
      refine Ops.ex (Ex.move rfl) rfl rfl rfl ?_
      refine Ops.on rfl ?_
      refine Ops.ex (Ex.move rfl) rfl rfl rfl ?_
      refine Ops.on rfl ?_
      obtain ⟨y62, hy62, hf⟩ := bnd hf
      obtain ⟨g68, p68, o68, cs68, hA68, ho68, hr68, f68⟩ := SlH.elem f1.toH hy62
      obtain rfl := hr68
      refine Ops.ex (Ex.ixA hA68 ho68 hy62 rfl rfl rfl Tryd.underlying119 sz125) rfl rfl rfl ?_
      refine Ops.on rfl ?_
      refine Ops.loadAgg [vi y62.key_, vi y62.value_.Client, vi y62.value_.Seq, vi y62.value_.Reply.Err, vs y62.value_.Reply.Value] rfl Tryd.underlying125 rfl sz125 rfl (cells_of_zc rfl (f68.mono hst52.le)) rfl ?_
      refine Ops.on rfl ?_
      refine Ops.ex (Ex.move rfl) rfl rfl rfl ?_
      refine Ops.on rfl ?_
      obtain ⟨y69, hy69, hf⟩ := bnd hf
      refine Ops.call rfl rfl Tryd.func69 (by kernel_rfl) (by kernel_rfl) rfl (go_sorted_Map_int_api_Session_find_c1.walk (p0 := y62) (p1 := p1) (hst := hst52) (hf := hy69)) ?_
      rintro _ w69 ⟨z69, rfl, hz69, hst69⟩
      refine ⟨_, rfl, ?_⟩
      replace f1 := f1.mono hz69; replace f68 := f68.mono hz69
      replace hz52 := hz52.trans hz69
      refine Ops.on rfl ?_
      refine Ops.ex (Ex.eqlI rfl rfl) rfl rfl rfl ?_
      refine Ops.ex (Ex.pickT rfl rfl) rfl rfl rfl ?_
      refine Ops.ex (Ex.assign rfl) rfl rfl rfl ?_
      refine Ops.ex (Ex.assign rfl) rfl rfl rfl ?_
      refine Ops.nil ?_
      obtain rfl := Option.some.inj hf
      exact Run.retV [vi x50, vb (decide (y69 = 0))] rfl ⟨rfl, rfl, trivial⟩ ⟨z69, rfl, hz52, hst69⟩
    · replace hf := ifF (dec_F hc) hf
      refine Ops.off rfl rfl ?_
      refine Ops.off rfl rfl ?_
      refine Ops.off rfl rfl ?_
      refine Ops.off rfl rfl ?_
      refine Ops.off rfl rfl ?_
      refine Ops.off rfl rfl ?_
      refine Ops.off rfl rfl ?_
      refine Ops.off rfl rfl ?_
      refine Ops.ex (Ex.pickF rfl rfl) rfl rfl rfl ?_
      refine Ops.ex (Ex.assign rfl) rfl rfl rfl ?_
      refine Ops.ex (Ex.assign rfl) rfl rfl rfl ?_
      refine Ops.nil ?_
      obtain rfl := Option.some.inj hf
      exact Run.retV [vi x50, vb false] rfl ⟨rfl, rfl, trivial⟩ ⟨z49, rfl, hz52, hst52⟩
def go_sorted_Map_int_api_Session_find (p0 : sortedMapintapiSession) (p1 : Int) : Option (Int × Bool) :=
  (go_slices_BinarySearchFunc_sorted_item_int_api_Session_sorted_item_int_api_Session_int_sorted_Map_int_api_Session_find_c1 p0.items_ p1).bind fun y3 => some (y3.1, y3.2)
set_option maxRecDepth 100000 in
set_option maxHeartbeats 4000000 in
theorem go_sorted_Map_int_api_Session_find.walk {w0 w : World} {X : List Res} {z0 : Zp} {p0 : sortedMapintapiSession} {g0 : Nat} {A1 : Option Addr} {c1 : Nat} {d1 : List Value} {p1 : Int} {r : Int × Bool} (hst : Ht w0 (frz z0 :: (blk g0 [.slice A1 p0.items_.length c1] 121) :: (orow 125 5 (.slice A1 p0.items_.length c1) p0.items_.length d1) :: X) w) (f1 : Cs tsorteditemintapiSession z0 d1 p0.items_) (hf : go_sorted_Map_int_api_Session_find p0 p1 = some r) :
    Calls Tryd.prog 52 #[.pointer (some ⟨g0, 0, none⟩), vi p1] w fun e w' => ∃ (z' : Zp), e = .returned (.tuple #[vi r.1, vb r.2]) ∧ Le z0 z' ∧ Ht w0 (frz z' :: (blk g0 [.slice A1 p0.items_.length c1] 121) :: (orow 125 5 (.slice A1 p0.items_.length c1) p0.items_.length d1) :: X) w' := by
  refine calls_np Tryd.func52 rfl rfl ?_
  have hle0 := Le.refl z0
  unfold go_sorted_Map_int_api_Session_find at hf
  refine Run.seq ?_
  refine Run.region ?_
  refine Ops.ex (Ex.assign rfl) rfl rfl rfl ?_
  refine Ops.ex (Ex.assign rfl) rfl rfl rfl ?_
  refine Ops.nil ?_
  refine Run.seq ?_
  refine Run.region ?_
  refine Ops.ex (Ex.move rfl) rfl rfl rfl ?_
  refine Ops.ex (Ex.nilCheck rfl) rfl rfl rfl ?_
  refine Ops.ex (Ex.fieldAddr rfl Tryd.underlying121 rfl sz119) rfl rfl rfl ?_
  refine Ops.load rfl Tryd.underlying119 rfl (hst.cell (i := 1) rfl rfl) rfl ?_
  refine Ops.ex (Ex.move rfl) rfl rfl rfl ?_
  obtain ⟨z4, hz4, f4, hst4, hu4⟩ := St.lend (τ := tsorteditemintapiSession) (xs := p0.items_) (St.up (St.up (St.up hst 1 rfl) 2 rfl) 2 rfl) f1 rfl
  obtain ⟨y3, hy3, hf⟩ := bnd hf
  refine Ops.call rfl rfl Tryd.func68 (by kernel_rfl) (by kernel_rfl) rfl (go_slices_BinarySearchFunc_sorted_item_int_api_Session_sorted_item_int_api_Session_int_sorted_Map_int_api_Session_find_c1.walk (p0 := p0.items_) (p1 := p1) (hst := hst4) (f1 := f4) (hf := hy3)) ?_
  rintro _ w3 ⟨z3, rfl, hz3, hst3⟩
  obtain ⟨z7, hz7, hst7⟩ := hu4 _ _ _ hz3 hst3
  refine ⟨_, rfl, ?_⟩
  replace f1 := f1.mono hz7
  replace hle0 := hle0.trans hz7
  refine Ops.ex (Ex.extract rfl rfl) rfl rfl rfl ?_
  refine Ops.ex (Ex.extract rfl rfl) rfl rfl rfl ?_
  refine Ops.ex (Ex.assign rfl) rfl rfl rfl ?_
  refine Ops.ex (Ex.assign rfl) rfl rfl rfl ?_
  refine Ops.nil ?_
  obtain rfl := Option.some.inj hf
  exact Run.retV [vi y3.1, vb y3.2] rfl ⟨rfl, rfl, trivial⟩ ⟨z7, rfl, hle0, (St.up (St.up (St.up hst7 1 rfl) 2 rfl) 2 rfl)⟩
def go_cmp_isNaN_string (p0 : Str) : Option Bool :=
  some (!(decide (p0 = p0)))
set_option maxRecDepth 100000 in
set_option maxHeartbeats 4000000 in
theorem go_cmp_isNaN_string.walk {w0 w : World} {X : List Res} {z0 : Zp} {p0 : Str} {r : Bool} (hst : Ht w0 (frz z0 :: X) w) (hf : go_cmp_isNaN_string p0 = some r) :
    Calls Tryd.prog 94 #[vs p0] w fun e w' => ∃ (z' : Zp), e = .returned (vb r) ∧ Le z0 z' ∧ Ht w0 (frz z' :: X) w' := by
  refine calls_np Tryd.func94 rfl rfl ?_
  have hle0 := Le.refl z0
  unfold go_cmp_isNaN_string at hf
  refine Run.seq ?_
  refine Run.region ?_
  refine Ops.ex (Ex.assign rfl) rfl rfl rfl ?_
  refine Ops.nil ?_
  refine Run.seq ?_
  refine Run.region ?_
  refine Ops.ex (Ex.move rfl) rfl rfl rfl ?_
  refine Ops.ex (Ex.move rfl) rfl rfl rfl ?_
  refine Ops.ex (Ex.neqT rfl rfl) rfl rfl rfl ?_
  refine Ops.ex (Ex.assign rfl) rfl rfl rfl ?_
  refine Ops.nil ?_
  obtain rfl := Option.some.inj hf
  exact Run.retV [vb (!(decide (p0 = p0)))] rfl ⟨rfl, trivial⟩ ⟨z0, rfl, hle0, hst⟩
def go_cmp_Compare_string (p0 : Str) (p1 : Str) : Option Int :=
  (go_cmp_isNaN_string p0).bind fun y3 => (go_cmp_isNaN_string p1).bind fun y5 => if y3 then (if y5 then (some 0) else (some (-1))) else (if y5 then (some 1) else (if ltT p0 p1 then (some (-1)) else (if !(ltT p0 p1 || decide (p0 = p1)) then (some 1) else (some 0))))
set_option maxRecDepth 100000 in
set_option maxHeartbeats 4000000 in
theorem go_cmp_Compare_string.walk {w0 w : World} {X : List Res} {z0 : Zp} {p0 : Str} {p1 : Str} {r : Int} (hst : Ht w0 (frz z0 :: X) w) (hf : go_cmp_Compare_string p0 p1 = some r) :
    Calls Tryd.prog 87 #[vs p0, vs p1] w fun e w' => ∃ (z' : Zp), e = .returned (vi r) ∧ Le z0 z' ∧ Ht w0 (frz z' :: X) w' := by
  refine calls_np Tryd.func87 rfl rfl ?_
  have hle0 := Le.refl z0
  unfold go_cmp_Compare_string at hf
  refine Run.seq ?_
  refine Run.region ?_
  refine Ops.ex (Ex.assign rfl) rfl rfl rfl ?_
  refine Ops.nil ?_
  refine Run.seq ?_
  refine Run.region ?_
  refine Ops.ex (Ex.move rfl) rfl rfl rfl ?_
  obtain ⟨y3, hy3, hf⟩ := bnd hf
  refine Ops.call rfl rfl Tryd.func94 (by kernel_rfl) (by kernel_rfl) rfl (go_cmp_isNaN_string.walk (p0 := p0) (hst := hst) (hf := hy3)) ?_
  rintro _ w3 ⟨z3, rfl, hz3, hst3⟩
  refine ⟨_, rfl, ?_⟩
  replace hle0 := hle0.trans hz3
  refine Ops.ex (Ex.assign rfl) rfl rfl rfl ?_
  refine Ops.nil ?_
  refine Run.seq ?_
  refine Run.region ?_
  refine Ops.ex (Ex.move rfl) rfl rfl rfl ?_
  obtain ⟨y5, hy5, hf⟩ := bnd hf
  refine Ops.call rfl rfl Tryd.func94 (by kernel_rfl) (by kernel_rfl) rfl (go_cmp_isNaN_string.walk (p0 := p1) (hst := hst3) (hf := hy5)) ?_
  rintro _ w5 ⟨z5, rfl, hz5, hst5⟩
  refine ⟨_, rfl, ?_⟩
  replace hle0 := hle0.trans hz5
  refine Ops.ex (Ex.assign rfl) rfl rfl rfl ?_
  refine Ops.nil ?_
  refine Run.seq ?_
  refine Run.seq ?_
  refine Run.region ?_
  refine Ops.ex (Ex.move rfl) rfl rfl rfl ?_
  refine Ops.nil ?_
  refine Run.cond rfl (fun hc => ?_) (fun hc => ?_)
  · replace hf := ifTb hc hf
    refine Run.seq ?_
    refine Run.seq ?_
    refine Run.region ?_
    refine Ops.ex (Ex.move rfl) rfl rfl rfl ?_
    refine Ops.nil ?_
    refine Run.cond rfl (fun hc => ?_) (fun hc => ?_)
    · replace hf := ifTb hc hf
      refine Run.seq ?_
      refine Run.region ?_
      refine Ops.ex (Ex.assign rfl) rfl rfl rfl ?_
      refine Ops.nil ?_
      obtain rfl := Option.some.inj hf
      exact Run.retV [vi 0] rfl ⟨rfl, trivial⟩ ⟨z5, rfl, hle0, hst5⟩
    · replace hf := ifFb hc hf
      refine Run.skip ?_
      refine Run.seq ?_
      refine Run.region ?_
      refine Ops.ex (Ex.assign rfl) rfl rfl rfl ?_
      refine Ops.nil ?_
      obtain rfl := Option.some.inj hf
      exact Run.retV [vi (-1)] rfl ⟨rfl, trivial⟩ ⟨z5, rfl, hle0, hst5⟩
  · replace hf := ifFb hc hf
    refine Run.skip ?_
    refine Run.seq ?_
    refine Run.seq ?_
    refine Run.region ?_
    refine Ops.ex (Ex.move rfl) rfl rfl rfl ?_
    refine Ops.nil ?_
    refine Run.cond rfl (fun hc => ?_) (fun hc => ?_)
    · replace hf := ifTb hc hf
      refine Run.seq ?_
      refine Run.region ?_
      refine Ops.ex (Ex.assign rfl) rfl rfl rfl ?_
      refine Ops.nil ?_
      obtain rfl := Option.some.inj hf
      exact Run.retV [vi 1] rfl ⟨rfl, trivial⟩ ⟨z5, rfl, hle0, hst5⟩
    · replace hf := ifFb hc hf
      refine Run.skip ?_
      refine Run.seq ?_
      refine Run.seq ?_
      refine Run.region ?_
      refine Ops.ex (Ex.move rfl) rfl rfl rfl ?_
      refine Ops.ex (Ex.move rfl) rfl rfl rfl ?_
      refine Ops.ex (Ex.lssT rfl rfl) rfl rfl rfl ?_
      refine Ops.nil ?_
      refine Run.cond rfl (fun hc => ?_) (fun hc => ?_)
      · replace hf := ifTb hc hf
        refine Run.seq ?_
        refine Run.region ?_
        refine Ops.ex (Ex.assign rfl) rfl rfl rfl ?_
        refine Ops.nil ?_
        obtain rfl := Option.some.inj hf
        exact Run.retV [vi (-1)] rfl ⟨rfl, trivial⟩ ⟨z5, rfl, hle0, hst5⟩
      · replace hf := ifFb hc hf
        refine Run.skip ?_
        refine Run.seq ?_
        refine Run.seq ?_
        refine Run.region ?_
        refine Ops.ex (Ex.move rfl) rfl rfl rfl ?_
        refine Ops.ex (Ex.move rfl) rfl rfl rfl ?_
        refine Ops.ex (Ex.gtrT rfl rfl) rfl rfl rfl ?_
        refine Ops.nil ?_
        refine Run.cond rfl (fun hc => ?_) (fun hc => ?_)
        · replace hf := ifTb hc hf
          refine Run.seq ?_
          refine Run.region ?_
          refine Ops.ex (Ex.assign rfl) rfl rfl rfl ?_
          refine Ops.nil ?_
          obtain rfl := Option.some.inj hf
          exact Run.retV [vi 1] rfl ⟨rfl, trivial⟩ ⟨z5, rfl, hle0, hst5⟩
        · replace hf := ifFb hc hf
          refine Run.skip ?_
          refine Run.seq ?_
          refine Run.region ?_
          refine Ops.ex (Ex.assign rfl) rfl rfl rfl ?_
          refine Ops.nil ?_
          obtain rfl := Option.some.inj hf
          exact Run.retV [vi 0] rfl ⟨rfl, trivial⟩ ⟨z5, rfl, hle0, hst5⟩
def go_sorted_Map_string_string_find_c1 (p0 : sorteditemstringstring) (p1 : Str) : Option Int :=
  (go_cmp_Compare_string p0.key_ p1).bind fun y5 => some y5
set_option maxRecDepth 100000 in
set_option maxHeartbeats 4000000 in
theorem go_sorted_Map_string_string_find_c1.walk {w0 w : World} {X : List Res} {z0 : Zp} {p0 : sorteditemstringstring} {p1 : Str} {r : Int} (hst : Ht w0 (frz z0 :: X) w) (hf : go_sorted_Map_string_string_find_c1 p0 p1 = some r) :
    Calls Tryd.prog 86 #[.agg #[vs p0.key_, vs p0.value_], vs p1] w fun e w' => ∃ (z' : Zp), e = .returned (vi r) ∧ Le z0 z' ∧ Ht w0 (frz z' :: X) w' := by
  refine calls_np Tryd.func86 rfl rfl ?_
  have hle0 := Le.refl z0
  unfold go_sorted_Map_string_string_find_c1 at hf
  refine Run.seq ?_
  refine Run.region ?_
  refine Ops.boxF [vs p0.key_, vs p0.value_] hst rfl rfl rfl (fun g4 w4 hst4 => ?_)
  refine Ops.ex (Ex.assign rfl) rfl rfl rfl ?_
  refine Ops.nil ?_
  refine Run.seq ?_
  refine Run.region ?_
  refine Ops.ex (Ex.fieldAddr rfl Tryd.underlying153 rfl sz9) rfl rfl rfl ?_
  refine Ops.load rfl Tryd.underlying9 rfl (hst4.cell (i := 1) rfl rfl) rfl ?_
  refine Ops.ex (Ex.move rfl) rfl rfl rfl ?_
  obtain ⟨y5, hy5, hf⟩ := bnd hf
  refine Ops.call rfl rfl Tryd.func87 (by kernel_rfl) (by kernel_rfl) rfl (go_cmp_Compare_string.walk (p0 := p0.key_) (p1 := p1) (hst := hst4) (hf := hy5)) ?_
  rintro _ w5 ⟨z5, rfl, hz5, hst5⟩
  refine ⟨_, rfl, ?_⟩
  replace hle0 := hle0.trans hz5
  refine Ops.ex (Ex.assign rfl) rfl rfl rfl ?_
  refine Ops.nil ?_
  obtain rfl := Option.some.inj hf
  exact Run.retV [vi y5] rfl ⟨rfl, trivial⟩ ⟨z5, rfl, hle0, (St.forget hst5 1)⟩
def go_slices_BinarySearchFunc_sorted_item_string_string_sorted_item_string_string_string_sorted_Map_string_string_find_c1.b1 (p0 : List sorteditemstringstring) (p1 : Str) : (Int × Int) → (Int × Int → Option (Int × Bool)) → Option (Int × Bool) :=
  fun (x38, x39) nxb3 => if x38 < x39 then ((atI p0 (wr ((wrq (wr (x38 + x39))) / 2))).bind fun y41 => (go_sorted_Map_string_string_find_c1 y41 p1).bind fun y45 => if y45 < 0 then (nxb3 (wr ((wr ((wrq (wr (x38 + x39))) / 2)) + 1), x39)) else (nxb3 (x38, wr ((wrq (wr (x38 + x39))) / 2)))) else (if x38 < (p0.length : Int) then ((atI p0 x38).bind fun y47 => (go_sorted_Map_string_string_find_c1 y47 p1).bind fun y51 => some (x38, decide (y51 = 0))) else (some (x38, false)))
def go_slices_BinarySearchFunc_sorted_item_string_string_sorted_item_string_string_string_sorted_Map_string_string_find_c1 (p0 : List sorteditemstringstring) (p1 : Str) : Option (Int × Bool) :=
  loopF (go_slices_BinarySearchFunc_sorted_item_string_string_sorted_item_string_string_string_sorted_Map_string_string_find_c1.b1 p0 p1) fuel (0, (p0.length : Int))
set_option maxRecDepth 100000 in
set_option maxHeartbeats 4000000 in
theorem go_slices_BinarySearchFunc_sorted_item_string_string_sorted_item_string_string_string_sorted_Map_string_string_find_c1.walk {w0 w : World} {X : List Res} {z0 : Zp} {p0 : List sorteditemstringstring} {A1 : Option Addr} {c1 : Nat} {p1 : Str} {r : Int × Bool} (hst : Ht w0 (frz z0 :: X) w) (f1 : Sl tsorteditemstringstring z0 A1 c1 p0) (hf : go_slices_BinarySearchFunc_sorted_item_string_string_sorted_item_string_string_string_sorted_Map_string_string_find_c1 p0 p1 = some r) :
    Calls Tryd.prog 85 #[.slice A1 p0.length c1, vs p1, .func (.func 86) #[] #[]] w fun e w' => ∃ (z' : Zp), e = .returned (.tuple #[vi r.1, vb r.2]) ∧ Le z0 z' ∧ Ht w0 (frz z' :: X) w' := by
  refine calls_np Tryd.func85 rfl rfl ?_
  have hle0 := Le.refl z0
  unfold go_slices_BinarySearchFunc_sorted_item_string_string_sorted_item_string_string_string_sorted_Map_string_string_find_c1 at hf
  refine Run.seq ?_
  refine Run.region ?_
  refine Ops.ex (Ex.assign rfl) rfl rfl rfl ?_
  refine Ops.ex (Ex.assign rfl) rfl rfl rfl ?_
  refine Ops.nil ?_
  refine Run.seq ?_
  refine Run.region ?_
  refine Ops.ex (Ex.move rfl) rfl rfl rfl ?_
  refine Ops.ex (Ex.len' rfl rfl rfl Tryd.underlying126) rfl rfl rfl ?_
  refine Ops.ex (Ex.assign rfl) rfl rfl rfl ?_
  refine Ops.nil ?_
  refine Run.seq ?_
  refine Run.region ?_
  refine Ops.ex (Ex.move rfl) rfl rfl rfl ?_
  refine Ops.ex (Ex.assign rfl) rfl rfl rfl ?_
  refine Ops.ex (Ex.assign rfl) rfl rfl rfl ?_
  refine Ops.nil ?_
  refine Run.seq ?_
  refine Run.block ?_
  refine Run.sub (e' := [(0, .slice A1 p0.length c1), (1, vs p1), (2, .func (.func 86) #[] #[]), (8, vi (p0.length : Int)), (9, vi 0), (10, vi (p0.length : Int))]) (subB_spec ⟨rfl, rfl, rfl, rfl, rfl, rfl, trivial⟩) ?_
  refine Run.loop (fun mb3 => (fun e' w' => ∃ (x38 : Int) (x39 : Int) (z37 : Zp), loopF (go_slices_BinarySearchFunc_sorted_item_string_string_sorted_item_string_string_string_sorted_Map_string_string_find_c1.b1 p0 p1) mb3 (x38, x39) = some r ∧ e' = [(0, .slice A1 p0.length c1), (1, vs p1), (2, .func (.func 86) #[] #[]), (8, vi (p0.length : Int)), (9, vi x38), (10, vi x39)] ∧ Le z0 z37 ∧ Ht w0 (frz z37 :: X) w')) fuel ⟨0, (p0.length : Int), z0, hf, rfl, hle0, hst⟩ ?_
  rintro mb3 e' w40 ⟨x38, x39, z37, hf, rfl, hz40, hst40⟩
  replace f1 := f1.mono hz40
  obtain ⟨mb3', nxb3, rfl, hnxb3, hf⟩ := loopF_in hf
  unfold go_slices_BinarySearchFunc_sorted_item_string_string_sorted_item_string_string_string_sorted_Map_string_string_find_c1.b1 at hf
  try dsimp only at hf
  refine Run.seq ?_
  refine Run.seq ?_
  refine Run.region ?_
  refine Ops.ex (Ex.move rfl) rfl rfl rfl ?_
  refine Ops.ex (Ex.move rfl) rfl rfl rfl ?_
  refine Ops.ex (Ex.lss rfl rfl) rfl rfl rfl ?_
  refine Ops.nil ?_
  refine Run.cond rfl (fun hc => ?_) (fun hc => ?_)
  · replace hf := ifT (dec_T hc) hf
    refine Run.skip ?_
    refine Run.block ?_
    refine Run.seq ?_
    refine Run.region ?_
    refine Ops.ex (Ex.move rfl) rfl rfl rfl ?_
    refine Ops.ex (Ex.move rfl) rfl rfl rfl ?_
    refine Ops.ex (Ex.add rfl rfl) rfl rfl rfl ?_
    refine Ops.ex (Ex.cto64 rfl Tryd.underlying3 Tryd.underlying138) rfl rfl rfl ?_
    refine Ops.ex (Ex.shr (m := 2) rfl rfl (by decide) (by decide) (by decide)) rfl rfl rfl ?_
    refine Ops.ex (Ex.cof64 rfl Tryd.underlying138 Tryd.underlying3) rfl rfl rfl ?_
    refine Ops.ex (Ex.assign rfl) rfl rfl rfl ?_
    refine Ops.nil ?_
    refine Run.seq ?_
    refine Run.region ?_
    refine Ops.ex (Ex.move rfl) rfl rfl rfl ?_
    refine Ops.ex (Ex.move rfl) rfl rfl rfl ?_
    refine Ops.ex (Ex.move rfl) rfl rfl rfl ?_
    obtain ⟨y41, hy41, hf⟩ := bnd hf
    obtain ⟨g44, p44, o44, cs44, hA44, ho44, hr44, f44⟩ := SlH.elem f1.toH hy41
    obtain rfl := hr44
    refine Ops.ex (Ex.ixA hA44 ho44 hy41 rfl rfl rfl Tryd.underlying126 sz153) rfl rfl rfl ?_
    refine Ops.loadAgg [vs y41.key_, vs y41.value_] rfl Tryd.underlying153 rfl sz153 rfl (cells_of_zc rfl (f44.mono hst40.le)) rfl ?_
    refine Ops.ex (Ex.move rfl) rfl rfl rfl ?_
    obtain ⟨y45, hy45, hf⟩ := bnd hf
    refine Ops.call rfl rfl Tryd.func86 (by kernel_rfl) (by kernel_rfl) rfl (go_sorted_Map_string_string_find_c1.walk (p0 := y41) (p1 := p1) (hst := hst40) (hf := hy45)) ?_
    rintro _ w45 ⟨z45, rfl, hz45, hst45⟩
    refine ⟨_, rfl, ?_⟩
    replace f1 := f1.mono hz45; replace f44 := f44.mono hz45
    replace hz40 := hz40.trans hz45
    refine Ops.ex (Ex.lss rfl rfl) rfl rfl rfl ?_
    refine Ops.nil ?_
    refine Run.cond rfl (fun hc => ?_) (fun hc => ?_)
    · replace hf := ifT (dec_T hc) hf
      refine Run.region ?_
      refine Ops.ex (Ex.move rfl) rfl rfl rfl ?_
      refine Ops.ex (Ex.add rfl rfl) rfl rfl rfl ?_
      refine Ops.ex (Ex.assign rfl) rfl rfl rfl ?_
      refine Ops.nil ?_
      refine Run.endBlk ?_
      exact Run.sub (by exact subB_spec ⟨rfl, rfl, rfl, rfl, rfl, rfl, trivial⟩) (Run.stop ⟨mb3', Nat.lt_succ_self _, wr ((wr ((wrq (wr (x38 + x39))) / 2)) + 1), x39, z45, (hnxb3 _).symm.trans hf, rfl, hz40, hst45⟩)
    · replace hf := ifF (dec_F hc) hf
      refine Run.region ?_
      refine Ops.ex (Ex.move rfl) rfl rfl rfl ?_
      refine Ops.ex (Ex.assign rfl) rfl rfl rfl ?_
      refine Ops.nil ?_
      refine Run.endBlk ?_
      exact Run.sub (by exact subB_spec ⟨rfl, rfl, rfl, rfl, rfl, rfl, trivial⟩) (Run.stop ⟨mb3', Nat.lt_succ_self _, x38, wr ((wrq (wr (x38 + x39))) / 2), z45, (hnxb3 _).symm.trans hf, rfl, hz40, hst45⟩)
  · replace hf := ifF (dec_F hc) hf
    refine Run.exit _ rfl ?_
    refine Run.seq ?_
    refine Run.region ?_
    refine Ops.ex (Ex.move rfl) rfl rfl rfl ?_
    refine Ops.ex (Ex.move rfl) rfl rfl rfl ?_
    refine Ops.ex (Ex.move rfl) rfl rfl rfl ?_
    refine Ops.ex (Ex.lss rfl rfl) rfl rfl rfl ?_
    refine Ops.ex (Ex.move rfl) rfl rfl rfl ?_
    refine Ops.case 39 rfl (fun hc => ?_) (fun hc => ?_)
    · replace hf := ifT (dec_T hc) hf
      refine Ops.on rfl ?_
      refine Ops.ex (Ex.move rfl) rfl rfl rfl ?_
      refine Ops.on rfl ?_
      refine Ops.ex (Ex.move rfl) rfl rfl rfl ?_
      refine Ops.on rfl ?_
      refine Ops.ex (Ex.move rfl) rfl rfl rfl ?_
      refine Ops.on rfl ?_
      obtain ⟨y47, hy47, hf⟩ := bnd hf
      obtain ⟨g50, p50, o50, cs50, hA50, ho50, hr50, f50⟩ := SlH.elem f1.toH hy47
      obtain rfl := hr50
      refine Ops.ex (Ex.ixA hA50 ho50 hy47 rfl rfl rfl Tryd.underlying126 sz153) rfl rfl rfl ?_
      refine Ops.on rfl ?_
      refine Ops.loadAgg [vs y47.key_, vs y47.value_] rfl Tryd.underlying153 rfl sz153 rfl (cells_of_zc rfl (f50.mono hst40.le)) rfl ?_
      refine Ops.on rfl ?_
      refine Ops.ex (Ex.move rfl) rfl rfl rfl ?_
      refine Ops.on rfl ?_
      obtain ⟨y51, hy51, hf⟩ := bnd hf
      refine Ops.call rfl rfl Tryd.func86 (by kernel_rfl) (by kernel_rfl) rfl (go_sorted_Map_string_string_find_c1.walk (p0 := y47) (p1 := p1) (hst := hst40) (hf := hy51)) ?_
      rintro _ w51 ⟨z51, rfl, hz51, hst51⟩
      refine ⟨_, rfl, ?_⟩
      replace f1 := f1.mono hz51; replace f50 := f50.mono hz51
      replace hz40 := hz40.trans hz51
      refine Ops.on rfl ?_
      refine Ops.ex (Ex.eqlI rfl rfl) rfl rfl rfl ?_
      refine Ops.ex (Ex.pickT rfl rfl) rfl rfl rfl ?_
      refine Ops.ex (Ex.assign rfl) rfl rfl rfl ?_
      refine Ops.ex (Ex.assign rfl) rfl rfl rfl ?_
      refine Ops.nil ?_
      obtain rfl := Option.some.inj hf
      exact Run.retV [vi x38, vb (decide (y51 = 0))] rfl ⟨rfl, rfl, trivial⟩ ⟨z51, rfl, hz40, hst51⟩
    · replace hf := ifF (dec_F hc) hf
      refine Ops.off rfl rfl ?_
      refine Ops.off rfl rfl ?_
      refine Ops.off rfl rfl ?_
      refine Ops.off rfl rfl ?_
      refine Ops.off rfl rfl ?_
      refine Ops.off rfl rfl ?_
      refine Ops.off rfl rfl ?_
      refine Ops.off rfl rfl ?_
      refine Ops.ex (Ex.pickF rfl rfl) rfl rfl rfl ?_
      refine Ops.ex (Ex.assign rfl) rfl rfl rfl ?_
      refine Ops.ex (Ex.assign rfl) rfl rfl rfl ?_
      refine Ops.nil ?_
      obtain rfl := Option.some.inj hf
      exact Run.retV [vi x38, vb false] rfl ⟨rfl, rfl, trivial⟩ ⟨z37, rfl, hz40, hst40⟩
def go_sorted_Map_string_string_find (p0 : sortedMapstringstring) (p1 : Str) : Option (Int × Bool) :=
  (go_slices_BinarySearchFunc_sorted_item_string_string_sorted_item_string_string_string_sorted_Map_string_string_find_c1 p0.items_ p1).bind fun y3 => some (y3.1, y3.2)
set_option maxRecDepth 100000 in
set_option maxHeartbeats 4000000 in
theorem go_sorted_Map_string_string_find.walk {w0 w : World} {X : List Res} {z0 : Zp} {p0 : sortedMapstringstring} {g0 : Nat} {A1 : Option Addr} {c1 : Nat} {d1 : List Value} {p1 : Str} {r : Int × Bool} (hst : Ht w0 (frz z0 :: (blk g0 [.slice A1 p0.items_.length c1] 128) :: (orow 153 2 (.slice A1 p0.items_.length c1) p0.items_.length d1) :: X) w) (f1 : Cs tsorteditemstringstring z0 d1 p0.items_) (hf : go_sorted_Map_string_string_find p0 p1 = some r) :
    Calls Tryd.prog 71 #[.pointer (some ⟨g0, 0, none⟩), vs p1] w fun e w' => ∃ (z' : Zp), e = .returned (.tuple #[vi r.1, vb r.2]) ∧ Le z0 z' ∧ Ht w0 (frz z' :: (blk g0 [.slice A1 p0.items_.length c1] 128) :: (orow 153 2 (.slice A1 p0.items_.length c1) p0.items_.length d1) :: X) w' := by
  refine calls_np Tryd.func71 rfl rfl ?_
  have hle0 := Le.refl z0
  unfold go_sorted_Map_string_string_find at hf
  refine Run.seq ?_
  refine Run.region ?_
  refine Ops.ex (Ex.assign rfl) rfl rfl rfl ?_
  refine Ops.ex (Ex.assign rfl) rfl rfl rfl ?_
  refine Ops.nil ?_
  refine Run.seq ?_
  refine Run.region ?_
  refine Ops.ex (Ex.move rfl) rfl rfl rfl ?_
  refine Ops.ex (Ex.nilCheck rfl) rfl rfl rfl ?_
  refine Ops.ex (Ex.fieldAddr rfl Tryd.underlying128 rfl sz126) rfl rfl rfl ?_
  refine Ops.load rfl Tryd.underlying126 rfl (hst.cell (i := 1) rfl rfl) rfl ?_
  refine Ops.ex (Ex.move rfl) rfl rfl rfl ?_
  obtain ⟨z4, hz4, f4, hst4, hu4⟩ := St.lend (τ := tsorteditemstringstring) (xs := p0.items_) (St.up (St.up (St.up hst 1 rfl) 2 rfl) 2 rfl) f1 rfl
  obtain ⟨y3, hy3, hf⟩ := bnd hf
  refine Ops.call rfl rfl Tryd.func85 (by kernel_rfl) (by kernel_rfl) rfl (go_slices_BinarySearchFunc_sorted_item_string_string_sorted_item_string_string_string_sorted_Map_string_string_find_c1.walk (p0 := p0.items_) (p1 := p1) (hst := hst4) (f1 := f4) (hf := hy3)) ?_
  rintro _ w3 ⟨z3, rfl, hz3, hst3⟩
  obtain ⟨z7, hz7, hst7⟩ := hu4 _ _ _ hz3 hst3
  refine ⟨_, rfl, ?_⟩
  replace f1 := f1.mono hz7
  replace hle0 := hle0.trans hz7
  refine Ops.ex (Ex.extract rfl rfl) rfl rfl rfl ?_
  refine Ops.ex (Ex.extract rfl rfl) rfl rfl rfl ?_
  refine Ops.ex (Ex.assign rfl) rfl rfl rfl ?_
  refine Ops.ex (Ex.assign rfl) rfl rfl rfl ?_
  refine Ops.nil ?_
  obtain rfl := Option.some.inj hf
  exact Run.retV [vi y3.1, vb y3.2] rfl ⟨rfl, rfl, trivial⟩ ⟨z7, rfl, hle0, (St.up (St.up (St.up hst7 1 rfl) 2 rfl) 2 rfl)⟩
def go_sorted_Map_int_api_Session_Get (p0 : sortedMapintapiSession) (p1 : Int) : Option (apiSession × Bool) :=
  (go_sorted_Map_int_api_Session_find p0 p1).bind fun y4 => if y4.2 then ((atI p0.items_ y4.1).bind fun y7 => some (y7.value_, true)) else (some ((⟨0, 0, ⟨0, []⟩⟩ : apiSession), false))
set_option maxRecDepth 100000 in
set_option maxHeartbeats 4000000 in
theorem go_sorted_Map_int_api_Session_Get.walk {w0 w : World} {X : List Res} {z0 : Zp} {p0 : sortedMapintapiSession} {g0 : Nat} {A1 : Option Addr} {c1 : Nat} {d1 : List Value} {p1 : Int} {r : apiSession × Bool} (hst : Ht w0 (frz z0 :: (blk g0 [.slice A1 p0.items_.length c1] 121) :: (orow 125 5 (.slice A1 p0.items_.length c1) p0.items_.length d1) :: X) w) (f1 : Cs tsorteditemintapiSession z0 d1 p0.items_) (hf : go_sorted_Map_int_api_Session_Get p0 p1 = some r) :
    Calls Tryd.prog 38 #[.pointer (some ⟨g0, 0, none⟩), vi p1] w fun e w' => ∃ (z' : Zp), e = .returned (.tuple #[.agg #[vi r.1.Client, vi r.1.Seq, vi r.1.Reply.Err, vs r.1.Reply.Value], vb r.2]) ∧ Le z0 z' ∧ Ht w0 (frz z' :: (blk g0 [.slice A1 p0.items_.length c1] 121) :: (orow 125 5 (.slice A1 p0.items_.length c1) p0.items_.length d1) :: X) w' := by
  refine calls_np Tryd.func38 rfl rfl ?_
  have hle0 := Le.refl z0
  unfold go_sorted_Map_int_api_Session_Get at hf
  refine Run.seq ?_
  refine Run.region ?_
  refine Ops.allocF [vi 0, vi 0, vi 0, vs []] hst zr98 rfl rfl (fun g3 w3 hst3 => ?_)
  refine Ops.ex (Ex.assign rfl) rfl rfl rfl ?_
  refine Ops.nil ?_
  refine Run.seq ?_
  refine Run.seq ?_
  refine Run.region ?_
  refine Ops.ex (Ex.move rfl) rfl rfl rfl ?_
  refine Ops.ex (Ex.move rfl) rfl rfl rfl ?_
  obtain ⟨y4, hy4, hf⟩ := bnd hf
  refine Ops.call rfl rfl Tryd.func52 (by kernel_rfl) (by kernel_rfl) rfl (go_sorted_Map_int_api_Session_find.walk (p0 := p0) (p1 := p1) (hst := (St.up (St.up (St.up (St.up hst3 1 rfl) 3 rfl) 3 rfl) 3 rfl)) (f1 := f1) (hf := hy4)) ?_
  rintro _ w4 ⟨z4, rfl, hz4, hst4⟩
  refine ⟨_, rfl, ?_⟩
  replace f1 := f1.mono hz4
  replace hle0 := hle0.trans hz4
  refine Ops.ex (Ex.move rfl) rfl rfl rfl ?_
  refine Ops.ex (Ex.extract rfl rfl) rfl rfl rfl ?_
  refine Ops.ex (Ex.extract rfl rfl) rfl rfl rfl ?_
  refine Ops.ex (Ex.assign rfl) rfl rfl rfl ?_
  refine Ops.ex (Ex.assign rfl) rfl rfl rfl ?_
  refine Ops.nil ?_
  refine Run.seq ?_
  refine Run.region ?_
  refine Ops.ex (Ex.move rfl) rfl rfl rfl ?_
  refine Ops.nil ?_
  refine Run.cond rfl (fun hc => ?_) (fun hc => ?_)
  · replace hf := ifTb hc hf
    refine Run.seq ?_
    refine Run.region ?_
    refine Ops.ex (Ex.move rfl) rfl rfl rfl ?_
    refine Ops.ex (Ex.nilCheck rfl) rfl rfl rfl ?_
    refine Ops.ex (Ex.fieldAddr rfl Tryd.underlying121 rfl sz119) rfl rfl rfl ?_
    refine Ops.load rfl Tryd.underlying119 rfl (hst4.cell (i := 1) rfl rfl) rfl ?_
    refine Ops.ex (Ex.move rfl) rfl rfl rfl ?_
    obtain ⟨y7, hy7, hf⟩ := bnd hf
    obtain ⟨g13, p13, o13, cs13, hA13, ho13, hr13, f13⟩ := own_elem f1 rfl (hst4.get (i := 2) rfl) hy7
    obtain rfl := hr13
    refine Ops.ex (Ex.ixA hA13 ho13 hy7 rfl rfl rfl Tryd.underlying119 sz125) rfl rfl rfl ?_
    refine Ops.ex (Ex.fieldAddr rfl Tryd.underlying125 rfl sz98) rfl rfl rfl ?_
    refine Ops.loadAgg [vi y7.value_.Client, vi y7.value_.Seq, vi y7.value_.Reply.Err, vs y7.value_.Reply.Value] rfl Tryd.underlying98 rfl sz98 rfl (cells_of_zc rfl ((f13 _ (hst4.get (i := 2) rfl)).part 1 4)) rfl ?_
    refine Ops.store 3 [vi y7.value_.Client, vi y7.value_.Seq, vi y7.value_.Reply.Err, vs y7.value_.Reply.Value] hst4 rfl rfl rfl rfl sz98 rfl (by simp [Value.oneCell']) (by simp) (fun w14 hst14 => ?_)
    refine Ops.ex (Ex.assign rfl) rfl rfl rfl ?_
    refine Ops.nil ?_
    obtain rfl := Option.some.inj hf
    exact Run.retV [.agg #[vi y7.value_.Client, vi y7.value_.Seq, vi y7.value_.Reply.Err, vs y7.value_.Reply.Value], vb true] rfl ⟨⟨_, rfl, run_loadN _ Tryd.underlying98 rfl sz98 rfl (hst14.cells (i := 3) rfl 0 4)⟩, rfl, trivial⟩ ⟨z4, rfl, hle0, (St.forget hst14 3)⟩
  · replace hf := ifFb hc hf
    refine Run.skip ?_
    refine Run.seq ?_
    refine Run.region ?_
    refine Ops.allocF [vi 0, vi 0, vi 0, vs []] hst4 zr98 rfl rfl (fun g15 w15 hst15 => ?_)
    refine Ops.nil ?_
    refine Run.seq ?_
    refine Run.region ?_
    refine Ops.loadAgg _ rfl Tryd.underlying98 rfl sz98 rfl (hst15.cells (i := 1) rfl 0 4) rfl ?_
    refine Ops.store 4 [vi 0, vi 0, vi 0, vs []] hst15 rfl rfl rfl rfl sz98 rfl (by simp [Value.oneCell']) (by simp) (fun w16 hst16 => ?_)
    refine Ops.ex (Ex.assign rfl) rfl rfl rfl ?_
    refine Ops.nil ?_
    obtain rfl := Option.some.inj hf
    exact Run.retV [.agg #[vi 0, vi 0, vi 0, vs []], vb false] rfl ⟨⟨_, rfl, run_loadN _ Tryd.underlying98 rfl sz98 rfl (hst16.cells (i := 4) rfl 0 4)⟩, rfl, trivial⟩ ⟨z4, rfl, hle0, (St.forget (St.forget hst16 4) 1)⟩
def go_sorted_Map_string_string_Get (p0 : sortedMapstringstring) (p1 : Str) : Option (Str × Bool) :=
  (go_sorted_Map_string_string_find p0 p1).bind fun y3 => if y3.2 then ((atI p0.items_ y3.1).bind fun y6 => some (y6.value_, true)) else (some ([], false))
set_option maxRecDepth 100000 in
set_option maxHeartbeats 4000000 in
theorem go_sorted_Map_string_string_Get.walk {w0 w : World} {X : List Res} {z0 : Zp} {p0 : sortedMapstringstring} {g0 : Nat} {A1 : Option Addr} {c1 : Nat} {d1 : List Value} {p1 : Str} {r : Str × Bool} (hst : Ht w0 (frz z0 :: (blk g0 [.slice A1 p0.items_.length c1] 128) :: (orow 153 2 (.slice A1 p0.items_.length c1) p0.items_.length d1) :: X) w) (f1 : Cs tsorteditemstringstring z0 d1 p0.items_) (hf : go_sorted_Map_string_string_Get p0 p1 = some r) :
    Calls Tryd.prog 54 #[.pointer (some ⟨g0, 0, none⟩), vs p1] w fun e w' => ∃ (z' : Zp), e = .returned (.tuple #[vs r.1, vb r.2]) ∧ Le z0 z' ∧ Ht w0 (frz z' :: (blk g0 [.slice A1 p0.items_.length c1] 128) :: (orow 153 2 (.slice A1 p0.items_.length c1) p0.items_.length d1) :: X) w' := by
  refine calls_np Tryd.func54 rfl rfl ?_
  have hle0 := Le.refl z0
  unfold go_sorted_Map_string_string_Get at hf
  refine Run.seq ?_
  refine Run.region ?_
  refine Ops.ex (Ex.assign rfl) rfl rfl rfl ?_
  refine Ops.ex (Ex.assign rfl) rfl rfl rfl ?_
  refine Ops.nil ?_
  refine Run.seq ?_
  refine Run.seq ?_
  refine Run.region ?_
  refine Ops.ex (Ex.move rfl) rfl rfl rfl ?_
  refine Ops.ex (Ex.move rfl) rfl rfl rfl ?_
  obtain ⟨y3, hy3, hf⟩ := bnd hf
  refine Ops.call rfl rfl Tryd.func71 (by kernel_rfl) (by kernel_rfl) rfl (go_sorted_Map_string_string_find.walk (p0 := p0) (p1 := p1) (hst := hst) (f1 := f1) (hf := hy3)) ?_
  rintro _ w3 ⟨z3, rfl, hz3, hst3⟩
  refine ⟨_, rfl, ?_⟩
  replace f1 := f1.mono hz3
  replace hle0 := hle0.trans hz3
  refine Ops.ex (Ex.move rfl) rfl rfl rfl ?_
  refine Ops.ex (Ex.extract rfl rfl) rfl rfl rfl ?_
  refine Ops.ex (Ex.extract rfl rfl) rfl rfl rfl ?_
  refine Ops.ex (Ex.assign rfl) rfl rfl rfl ?_
  refine Ops.ex (Ex.assign rfl) rfl rfl rfl ?_
  refine Ops.nil ?_
  refine Run.seq ?_
  refine Run.region ?_
  refine Ops.ex (Ex.move rfl) rfl rfl rfl ?_
  refine Ops.nil ?_
  refine Run.cond rfl (fun hc => ?_) (fun hc => ?_)
  · replace hf := ifTb hc hf
    refine Run.seq ?_
    refine Run.region ?_
    refine Ops.ex (Ex.move rfl) rfl rfl rfl ?_
    refine Ops.ex (Ex.nilCheck rfl) rfl rfl rfl ?_
    refine Ops.ex (Ex.fieldAddr rfl Tryd.underlying128 rfl sz126) rfl rfl rfl ?_
    refine Ops.load rfl Tryd.underlying126 rfl (hst3.cell (i := 1) rfl rfl) rfl ?_
    refine Ops.ex (Ex.move rfl) rfl rfl rfl ?_
    obtain ⟨y6, hy6, hf⟩ := bnd hf
    obtain ⟨g9, p9, o9, cs9, hA9, ho9, hr9, f9⟩ := own_elem f1 rfl (hst3.get (i := 2) rfl) hy6
    obtain rfl := hr9
    refine Ops.ex (Ex.ixA hA9 ho9 hy6 rfl rfl rfl Tryd.underlying126 sz153) rfl rfl rfl ?_
    refine Ops.ex (Ex.fieldAddr rfl Tryd.underlying153 rfl sz9) rfl rfl rfl ?_
    refine Ops.load rfl Tryd.underlying9 rfl ((f9 _ (hst3.get (i := 2) rfl)) 1 _ rfl) rfl ?_
    refine Ops.ex (Ex.assign rfl) rfl rfl rfl ?_
    refine Ops.ex (Ex.assign rfl) rfl rfl rfl ?_
    refine Ops.nil ?_
    obtain rfl := Option.some.inj hf
    exact Run.retV [vs y6.value_, vb true] rfl ⟨rfl, rfl, trivial⟩ ⟨z3, rfl, hle0, hst3⟩
  · replace hf := ifFb hc hf
    refine Run.skip ?_
    refine Run.seq ?_
    refine Run.region ?_
    refine Ops.ex (Ex.assign rfl) rfl rfl rfl ?_
    refine Ops.nil ?_
    refine Run.seq ?_
    refine Run.region ?_
    refine Ops.ex (Ex.move rfl) rfl rfl rfl ?_
    refine Ops.ex (Ex.assign rfl) rfl rfl rfl ?_
    refine Ops.ex (Ex.assign rfl) rfl rfl rfl ?_
    refine Ops.nil ?_
    obtain rfl := Option.some.inj hf
    exact Run.retV [vs [], vb false] rfl ⟨rfl, rfl, trivial⟩ ⟨z3, rfl, hle0, hst3⟩
def go_sorted_Map_int_api_Session_Put (p0 : sortedMapintapiSession) (p1 : Int) (p2 : apiSession) : Option (Bool × sortedMapintapiSession) :=
  (go_sorted_Map_int_api_Session_find p0 p1).bind fun y8 => if y8.2 then ((atI p0.items_ y8.1).bind fun y13 => (putI p0.items_ y8.1 (⟨y13.key_, ⟨p2.Client, p2.Seq, ⟨p2.Reply.Err, p2.Reply.Value⟩⟩⟩ : sorteditemintapiSession)).bind fun l20 => some (false, (⟨l20⟩ : sortedMapintapiSession))) else ((InsI.insI p0.items_ y8.1 [(⟨p1, ⟨p2.Client, p2.Seq, ⟨p2.Reply.Err, p2.Reply.Value⟩⟩⟩ : sorteditemintapiSession)]).bind fun y25 => some (true, (⟨y25⟩ : sortedMapintapiSession)))
set_option maxRecDepth 100000 in
set_option maxHeartbeats 4000000 in
theorem go_sorted_Map_int_api_Session_Put.walk {w0 w : World} {X : List Res} {z0 : Zp} {p0 : sortedMapintapiSession} {g0 : Nat} {A1 : Option Addr} {c1 : Nat} {d1 : List Value} {p1 : Int} {p2 : apiSession} {r : Bool × sortedMapintapiSession} (hst : Ht w0 (frz z0 :: (blk g0 [.slice A1 p0.items_.length c1] 121) :: (orow 125 5 (.slice A1 p0.items_.length c1) p0.items_.length d1) :: X) w) (f1 : Cs tsorteditemintapiSession z0 d1 p0.items_) (hf : go_sorted_Map_int_api_Session_Put p0 p1 p2 = some r) :
    Calls Tryd.prog 42 #[.pointer (some ⟨g0, 0, none⟩), vi p1, .agg #[vi p2.Client, vi p2.Seq, vi p2.Reply.Err, vs p2.Reply.Value]] w fun e w' => ∃ (z' : Zp) (A9002 : Option Addr) (c9002 : Nat) (d9002 : List Value), e = .returned (vb r.1) ∧ Le z0 z' ∧ Cs tsorteditemintapiSession z' d9002 r.2.items_ ∧ Ht w0 (frz z' :: (blk g0 [.slice A9002 r.2.items_.length c9002] 121) :: (orow 125 5 (.slice A9002 r.2.items_.length c9002) r.2.items_.length d9002) :: X) w' := by
  refine calls_np Tryd.func42 rfl rfl ?_
  have hle0 := Le.refl z0
  unfold go_sorted_Map_int_api_Session_Put at hf
  refine Run.seq ?_
  refine Run.region ?_
  refine Ops.boxF [vi p2.Client, vi p2.Seq, vi p2.Reply.Err, vs p2.Reply.Value] hst rfl rfl rfl (fun g7 w7 hst7 => ?_)
  refine Ops.ex (Ex.assign rfl) rfl rfl rfl ?_
  refine Ops.nil ?_
  refine Run.seq ?_
  refine Run.region ?_
  refine Ops.ex (Ex.move rfl) rfl rfl rfl ?_
  refine Ops.ex (Ex.move rfl) rfl rfl rfl ?_
  obtain ⟨y8, hy8, hf⟩ := bnd hf
  refine Ops.call rfl rfl Tryd.func52 (by kernel_rfl) (by kernel_rfl) rfl (go_sorted_Map_int_api_Session_find.walk (p0 := p0) (p1 := p1) (hst := (St.up (St.up (St.up (St.up hst7 1 rfl) 3 rfl) 3 rfl) 3 rfl)) (f1 := f1) (hf := hy8)) ?_
  rintro _ w8 ⟨z8, rfl, hz8, hst8⟩
  refine ⟨_, rfl, ?_⟩
  replace f1 := f1.mono hz8
  replace hle0 := hle0.trans hz8
  refine Ops.ex (Ex.move rfl) rfl rfl rfl ?_
  refine Ops.ex (Ex.extract rfl rfl) rfl rfl rfl ?_
  refine Ops.ex (Ex.extract rfl rfl) rfl rfl rfl ?_
  refine Ops.ex (Ex.assign rfl) rfl rfl rfl ?_
  refine Ops.ex (Ex.assign rfl) rfl rfl rfl ?_
  refine Ops.nil ?_
  refine Run.seq ?_
  refine Run.seq ?_
  refine Run.region ?_
  refine Ops.ex (Ex.move rfl) rfl rfl rfl ?_
  refine Ops.nil ?_
  refine Run.cond rfl (fun hc => ?_) (fun hc => ?_)
  · replace hf := ifTb hc hf
    refine Run.seq ?_
    have hm12 := Le.refl z8
    refine Run.drawH [([], fun w => ∃ ζ Y, Le z8 ζ ∧ Ht w0 (frz ζ :: (blk g0 [.slice A1 p0.items_.length c1] 121) :: (blk g7 [vi p2.Client, vi p2.Seq, vi p2.Reply.Err, vs p2.Reply.Value] 98) :: Y) w), ([8], fun w => ∃ ζ Y, Le z8 ζ ∧ Ht w0 (frz ζ :: (orow 125 5 (.slice A1 p0.items_.length c1) p0.items_.length d1) :: Y) w)] (by kernel_rfl) hst8 (fun w11 hst11 => ?_)
    have hS0 := (⟨_, _, (Le.refl _), (St.up (St.up (St.up hst11 3 rfl) 2 rfl) 2 rfl)⟩ : (fun w => ∃ ζ Y, Le z8 ζ ∧ Ht w0 (frz ζ :: (blk g0 [.slice A1 p0.items_.length c1] 121) :: (blk g7 [vi p2.Client, vi p2.Seq, vi p2.Reply.Err, vs p2.Reply.Value] 98) :: Y) w) _)
    have hS1 := (⟨_, _, (Le.refl _), (St.up (St.up hst11 2 rfl) 1 rfl)⟩ : (fun w => ∃ ζ Y, Le z8 ζ ∧ Ht w0 (frz ζ :: (orow 125 5 (.slice A1 p0.items_.length c1) p0.items_.length d1) :: Y) w) _)
    refine Any.takeE 0 rfl rfl rfl rfl (by kernel_rfl) (fun _ _ _ _ _ h => h) ((Ex.move rfl).s) ?_
    refine Any.takeE 1 rfl rfl rfl rfl (by kernel_rfl) (fun _ _ _ _ _ h => h) ((Ex.nilCheck rfl).s) ?_
    refine Any.takeE 2 rfl rfl rfl rfl (by kernel_rfl) (fun _ _ _ _ _ h => h) ((Ex.fieldAddr rfl Tryd.underlying121 rfl sz119).s) ?_
    refine Any.take 0 3 rfl rfl rfl rfl rfl (by kernel_rfl) (fun _ _ _ _ _ h => h) (ExS.load rfl Tryd.underlying119 rfl (fun w hS => by obtain ⟨_, _, _, hs⟩ := hS; exact hs.cell (i := 1) rfl rfl)) hS0 ?_
    refine Any.takeE 4 rfl rfl rfl rfl (by kernel_rfl) (fun _ _ _ _ _ h => h) ((Ex.move rfl).s) ?_
    refine Any.take 0 5 rfl rfl rfl rfl rfl (by kernel_rfl) (fun _ _ _ _ _ h => h) (ExS.loadAgg [vi p2.Client, vi p2.Seq, vi p2.Reply.Err, vs p2.Reply.Value] rfl Tryd.underlying98 rfl sz98 rfl (fun w hS => by obtain ⟨_, _, _, hs⟩ := hS; exact hs.cells (i := 2) rfl 0 4)) hS0 ?_
    obtain ⟨y13, hy13, hf⟩ := bnd hf
    obtain ⟨g19, p19, o19, cs19, hA19, ho19, hr19, f19⟩ := own_elem f1 rfl (hst11.get (i := 2) rfl) hy13
    obtain rfl := hr19
    refine Any.takeE 6 rfl rfl rfl rfl (by kernel_rfl) (fun _ _ _ _ _ h => h) ((Ex.ixA hA19 ho19 hy13 rfl rfl rfl Tryd.underlying119 sz125).s) ?_
    refine Any.takeE 7 rfl rfl rfl rfl (by kernel_rfl) (fun _ _ _ _ _ h => h) ((Ex.fieldAddr rfl Tryd.underlying125 rfl sz98).s) ?_
    obtain ⟨l20, hy20, hf⟩ := bnd hf
    refine Any.one 8 (by kernel_rfl) rfl rfl (One.of_ops rfl ?_)
    refine Ops.storeN (off := 1) (cs := [vi y13.key_, vi y13.value_.Client, vi y13.value_.Seq, vi y13.value_.Reply.Err, vs y13.value_.Reply.Value]) (cs' := [vi y13.key_, vi p2.Client, vi p2.Seq, vi p2.Reply.Err, vs p2.Reply.Value]) 2 hst11 rfl f1 rfl hA19 ho19 hy20 f19 rfl rfl rfl rfl rfl rfl sz98 rfl (by simp [Value.oneCell']) (by simp) (fun d20 w20 f20 hn20 hst20 => Ops.stop ?_)
    have hS0 := (⟨_, _, (Le.refl _), (St.up (St.up (St.up hst20 3 rfl) 2 rfl) 2 rfl)⟩ : (fun w => ∃ ζ Y, Le z8 ζ ∧ Ht w0 (frz ζ :: (blk g0 [.slice A1 p0.items_.length c1] 121) :: (blk g7 [vi p2.Client, vi p2.Seq, vi p2.Reply.Err, vs p2.Reply.Value] 98) :: Y) w) _)
    refine ⟨⟨.inr (fun _ => hS0), .inl (by decide), trivial⟩, ?_⟩
    refine Any.done (by kernel_rfl) ?_
    refine Run.seq ?_
    refine Run.region ?_
    refine Ops.ex (Ex.assign rfl) rfl rfl rfl ?_
    refine Ops.nil ?_
    have hst21 := hst20
    rw [← hn20] at hst21
    replace hst21 : Ht w0 (frz z8 :: (blk g0 [.slice A1 l20.length c1] 121) :: (orow 125 5 (.slice A1 l20.length c1) l20.length d20) :: (blk g7 [vi p2.Client, vi p2.Seq, vi p2.Reply.Err, vs p2.Reply.Value] 98) :: X) _ := hst21
    obtain rfl := Option.some.inj hf
    exact Run.retV [vb false] rfl ⟨rfl, trivial⟩ ⟨z8, A1, c1, d20, rfl, hle0, f20, (St.forget hst21 3)⟩
  · replace hf := ifFb hc hf
    refine Run.skip ?_
    refine Run.seq ?_
    have hm23 := Le.refl z8
    refine Run.drawH [([], fun w => ∃ ζ Y, Le z8 ζ ∧ Ht w0 (frz ζ :: (blk g7 [vi p2.Client, vi p2.Seq, vi p2.Reply.Err, vs p2.Reply.Value] 98) :: Y) w), ([10, 13], fun w => ∃ ζ Y, Le z8 ζ ∧ Ht w0 (frz ζ :: (orow 125 5 (.slice A1 p0.items_.length c1) p0.items_.length d1) :: Y) w), ([13], fun w => ∃ ζ Y, Le z8 ζ ∧ Ht w0 (frz ζ :: (blk g0 [.slice A1 p0.items_.length c1] 121) :: Y) w)] (by kernel_rfl) hst8 (fun w22 hst22 => ?_)
    have hS0 := (⟨_, _, (Le.refl _), (St.up (St.up hst22 3 rfl) 1 rfl)⟩ : (fun w => ∃ ζ Y, Le z8 ζ ∧ Ht w0 (frz ζ :: (blk g7 [vi p2.Client, vi p2.Seq, vi p2.Reply.Err, vs p2.Reply.Value] 98) :: Y) w) _)
    have hS1 := (⟨_, _, (Le.refl _), (St.up (St.up hst22 2 rfl) 1 rfl)⟩ : (fun w => ∃ ζ Y, Le z8 ζ ∧ Ht w0 (frz ζ :: (orow 125 5 (.slice A1 p0.items_.length c1) p0.items_.length d1) :: Y) w) _)
    have hS2 := (⟨_, _, (Le.refl _), (St.up (St.up hst22 1 rfl) 1 rfl)⟩ : (fun w => ∃ ζ Y, Le z8 ζ ∧ Ht w0 (frz ζ :: (blk g0 [.slice A1 p0.items_.length c1] 121) :: Y) w) _)
    refine Any.takeE 0 rfl rfl rfl rfl (by kernel_rfl) (fun _ _ _ _ _ h => h) ((Ex.move rfl).s) ?_
    refine Any.takeE 1 rfl rfl rfl rfl (by kernel_rfl) (fun _ _ _ _ _ h => h) ((Ex.move rfl).s) ?_
    refine Any.takeE 2 rfl rfl rfl rfl (by kernel_rfl) (fun _ _ _ _ _ h => h) ((Ex.nilCheck rfl).s) ?_
    refine Any.takeE 3 rfl rfl rfl rfl (by kernel_rfl) (fun _ _ _ _ _ h => h) ((Ex.fieldAddr rfl Tryd.underlying121 rfl sz119).s) ?_
    refine Any.take 2 4 rfl rfl rfl rfl rfl (by kernel_rfl) (fun _ _ _ _ _ h => h) (ExS.load rfl Tryd.underlying119 rfl (fun w hS => by obtain ⟨_, _, _, hs⟩ := hS; exact hs.cell (i := 1) rfl rfl)) hS2 ?_
    refine Any.takeE 5 rfl rfl rfl rfl (by kernel_rfl) (fun _ _ _ _ _ h => h) ((Ex.move rfl).s) ?_
    refine Any.takeE 6 rfl rfl rfl rfl (by kernel_rfl) (fun _ _ _ _ _ h => h) ((Ex.move rfl).s) ?_
    refine Any.take 0 7 rfl rfl rfl rfl rfl (by kernel_rfl) (fun _ _ _ _ _ h => h) (ExS.loadAgg [vi p2.Client, vi p2.Seq, vi p2.Reply.Err, vs p2.Reply.Value] rfl Tryd.underlying98 rfl sz98 rfl (fun w hS => by obtain ⟨_, _, _, hs⟩ := hS; exact hs.cells (i := 1) rfl 0 4)) hS0 ?_
    refine Any.takeE 8 rfl rfl rfl rfl (by kernel_rfl) (fun _ _ _ _ _ h => h) ((Ex.build [vi p1, vi p2.Client, vi p2.Seq, vi p2.Reply.Err, vs p2.Reply.Value] rfl Tryd.underlying125 zr125 (pl125 Tryd.underlying125) (by kernel_rfl)).s) ?_
    refine Any.one 9 (by kernel_rfl) rfl rfl (One.of_ops rfl ?_)
    refine Ops.sliceF [vi p1, vi p2.Client, vi p2.Seq, vi p2.Reply.Err, vs p2.Reply.Value] hst22 rfl Tryd.underlying119 sz125 zr125 rfl rfl (by kernel_rfl) rfl (by simp [Value.oneCell']) rfl (fun A24 w24 hst24 => Ops.stop ?_)
    have f24 : Cs tsorteditemintapiSession z8 [vi p1, vi p2.Client, vi p2.Seq, vi p2.Reply.Err, vs p2.Reply.Value] [(⟨p1, ⟨p2.Client, p2.Seq, ⟨p2.Reply.Err, p2.Reply.Value⟩⟩⟩ : sorteditemintapiSession)] := (Cs.cons (c := [vi p1, vi p2.Client, vi p2.Seq, vi p2.Reply.Err, vs p2.Reply.Value]) rfl (Cs.nil _ _))
    have hS0 := (⟨_, _, (Le.refl _), (St.up (St.up hst24 4 rfl) 1 rfl)⟩ : (fun w => ∃ ζ Y, Le z8 ζ ∧ Ht w0 (frz ζ :: (blk g7 [vi p2.Client, vi p2.Seq, vi p2.Reply.Err, vs p2.Reply.Value] 98) :: Y) w) _)
    have hS1 := (⟨_, _, (Le.refl _), (St.up (St.up hst24 3 rfl) 1 rfl)⟩ : (fun w => ∃ ζ Y, Le z8 ζ ∧ Ht w0 (frz ζ :: (orow 125 5 (.slice A1 p0.items_.length c1) p0.items_.length d1) :: Y) w) _)
    have hS2 := (⟨_, _, (Le.refl _), (St.up (St.up hst24 2 rfl) 1 rfl)⟩ : (fun w => ∃ ζ Y, Le z8 ζ ∧ Ht w0 (frz ζ :: (blk g0 [.slice A1 p0.items_.length c1] 121) :: Y) w) _)
    refine ⟨⟨.inr (fun _ => hS0), .inr (fun _ => hS1), .inr (fun _ => hS2), trivial⟩, ?_⟩
    obtain ⟨y25, hy25, hf⟩ := bnd hf
    refine Any.one 10 (by kernel_rfl) rfl rfl (One.of_ops rfl ?_)
    refine Ops.call rfl rfl Tryd.func58 (by kernel_rfl) (by kernel_rfl) rfl (InsI.insI.walk (p0 := p0.items_) (p1 := y8.1) (p2 := [(⟨p1, ⟨p2.Client, p2.Seq, ⟨p2.Reply.Err, p2.Reply.Value⟩⟩⟩ : sorteditemintapiSession)]) (hst := (St.up (St.up (St.up (St.up (St.up hst24 4 rfl) 3 rfl) 3 rfl) 4 rfl) 4 rfl)) (f0 := f1) (f2 := f24) (hf := hy25)) ?_
    rintro _ w25 ⟨z25, A26, c26, d26, rfl, hz25, f26, hst25⟩
    refine ⟨_, rfl, Ops.stop ?_⟩
    replace hle0 := hle0.trans hz25
    replace hm23 := hm23.trans hz25
    have hS0 := (⟨_, _, hm23, (St.up (St.up hst25 3 rfl) 1 rfl)⟩ : (fun w => ∃ ζ Y, Le z8 ζ ∧ Ht w0 (frz ζ :: (blk g7 [vi p2.Client, vi p2.Seq, vi p2.Reply.Err, vs p2.Reply.Value] 98) :: Y) w) _)
    have hS2 := (⟨_, _, hm23, (St.up (St.up hst25 2 rfl) 1 rfl)⟩ : (fun w => ∃ ζ Y, Le z8 ζ ∧ Ht w0 (frz ζ :: (blk g0 [.slice A1 p0.items_.length c1] 121) :: Y) w) _)
    refine ⟨⟨.inr (fun _ => hS0), .inl (by decide), .inr (fun _ => hS2), trivial⟩, ?_⟩
    refine Any.takeE 11 rfl rfl rfl rfl (by kernel_rfl) (fun _ _ _ _ _ h => h) ((Ex.nilCheck rfl).s) ?_
    refine Any.takeE 12 rfl rfl rfl rfl (by kernel_rfl) (fun _ _ _ _ _ h => h) ((Ex.fieldAddr rfl Tryd.underlying121 rfl sz119).s) ?_
    refine Any.one 13 (by kernel_rfl) rfl rfl (One.of_ops rfl ?_)
    refine Ops.store 2 [.slice A26 y25.length c26] hst25 rfl rfl rfl rfl sz119 rfl (by simp [Value.oneCell']) (by simp) (fun w27 hst27 => Ops.stop ?_)
    have hS0 := (⟨_, _, hm23, (St.up (St.up hst27 3 rfl) 1 rfl)⟩ : (fun w => ∃ ζ Y, Le z8 ζ ∧ Ht w0 (frz ζ :: (blk g7 [vi p2.Client, vi p2.Seq, vi p2.Reply.Err, vs p2.Reply.Value] 98) :: Y) w) _)
    refine ⟨⟨.inr (fun _ => hS0), .inl (by decide), .inl (by decide), trivial⟩, ?_⟩
    refine Any.done (by kernel_rfl) ?_
    refine Run.seq ?_
    refine Run.region ?_
    refine Ops.ex (Ex.assign rfl) rfl rfl rfl ?_
    refine Ops.nil ?_
    obtain rfl := Option.some.inj hf
    exact Run.retV [vb true] rfl ⟨rfl, trivial⟩ ⟨z25, A26, c26, d26, rfl, hle0, f26, (St.up (St.up (St.up (St.forget hst27 3) 1 rfl) 2 rfl) 2 rfl)⟩
def go_sorted_Map_string_string_Put (p0 : sortedMapstringstring) (p1 : Str) (p2 : Str) : Option (Bool × sortedMapstringstring) :=
  (go_sorted_Map_string_string_find p0 p1).bind fun y4 => if y4.2 then ((atI p0.items_ y4.1).bind fun y7 => (putI p0.items_ y4.1 (⟨y7.key_, p2⟩ : sorteditemstringstring)).bind fun l11 => some (false, (⟨l11⟩ : sortedMapstringstring))) else ((InsS.insS p0.items_ y4.1 [(⟨p1, p2⟩ : sorteditemstringstring)]).bind fun y14 => some (true, (⟨y14⟩ : sortedMapstringstring)))
set_option maxRecDepth 100000 in
set_option maxHeartbeats 4000000 in
theorem go_sorted_Map_string_string_Put.walk {w0 w : World} {X : List Res} {z0 : Zp} {p0 : sortedMapstringstring} {g0 : Nat} {A1 : Option Addr} {c1 : Nat} {d1 : List Value} {p1 : Str} {p2 : Str} {r : Bool × sortedMapstringstring} (hst : Ht w0 (frz z0 :: (blk g0 [.slice A1 p0.items_.length c1] 128) :: (orow 153 2 (.slice A1 p0.items_.length c1) p0.items_.length d1) :: X) w) (f1 : Cs tsorteditemstringstring z0 d1 p0.items_) (hf : go_sorted_Map_string_string_Put p0 p1 p2 = some r) :
    Calls Tryd.prog 53 #[.pointer (some ⟨g0, 0, none⟩), vs p1, vs p2] w fun e w' => ∃ (z' : Zp) (A9002 : Option Addr) (c9002 : Nat) (d9002 : List Value), e = .returned (vb r.1) ∧ Le z0 z' ∧ Cs tsorteditemstringstring z' d9002 r.2.items_ ∧ Ht w0 (frz z' :: (blk g0 [.slice A9002 r.2.items_.length c9002] 128) :: (orow 153 2 (.slice A9002 r.2.items_.length c9002) r.2.items_.length d9002) :: X) w' := by
  refine calls_np Tryd.func53 rfl rfl ?_
  have hle0 := Le.refl z0
  unfold go_sorted_Map_string_string_Put at hf
  refine Run.seq ?_
  refine Run.region ?_
  refine Ops.ex (Ex.assign rfl) rfl rfl rfl ?_
  refine Ops.nil ?_
  refine Run.seq ?_
  refine Run.region ?_
  refine Ops.ex (Ex.move rfl) rfl rfl rfl ?_
  refine Ops.ex (Ex.move rfl) rfl rfl rfl ?_
  obtain ⟨y4, hy4, hf⟩ := bnd hf
  refine Ops.call rfl rfl Tryd.func71 (by kernel_rfl) (by kernel_rfl) rfl (go_sorted_Map_string_string_find.walk (p0 := p0) (p1 := p1) (hst := hst) (f1 := f1) (hf := hy4)) ?_
  rintro _ w4 ⟨z4, rfl, hz4, hst4⟩
  refine ⟨_, rfl, ?_⟩
  replace f1 := f1.mono hz4
  replace hle0 := hle0.trans hz4
  refine Ops.ex (Ex.move rfl) rfl rfl rfl ?_
  refine Ops.ex (Ex.extract rfl rfl) rfl rfl rfl ?_
  refine Ops.ex (Ex.extract rfl rfl) rfl rfl rfl ?_
  refine Ops.ex (Ex.assign rfl) rfl rfl rfl ?_
  refine Ops.ex (Ex.assign rfl) rfl rfl rfl ?_
  refine Ops.nil ?_
  refine Run.seq ?_
  refine Run.seq ?_
  refine Run.region ?_
  refine Ops.ex (Ex.move rfl) rfl rfl rfl ?_
  refine Ops.nil ?_
  refine Run.cond rfl (fun hc => ?_) (fun hc => ?_)
  · replace hf := ifTb hc hf
    refine Run.seq ?_
    refine Run.region ?_
    refine Ops.ex (Ex.move rfl) rfl rfl rfl ?_
    refine Ops.ex (Ex.nilCheck rfl) rfl rfl rfl ?_
    refine Ops.ex (Ex.fieldAddr rfl Tryd.underlying128 rfl sz126) rfl rfl rfl ?_
    refine Ops.load rfl Tryd.underlying126 rfl (hst4.cell (i := 1) rfl rfl) rfl ?_
    refine Ops.ex (Ex.move rfl) rfl rfl rfl ?_
    refine Ops.ex (Ex.move rfl) rfl rfl rfl ?_
    obtain ⟨y7, hy7, hf⟩ := bnd hf
    obtain ⟨g10, p10, o10, cs10, hA10, ho10, hr10, f10⟩ := own_elem f1 rfl (hst4.get (i := 2) rfl) hy7
    obtain rfl := hr10
    refine Ops.ex (Ex.ixA hA10 ho10 hy7 rfl rfl rfl Tryd.underlying126 sz153) rfl rfl rfl ?_
    refine Ops.ex (Ex.fieldAddr rfl Tryd.underlying153 rfl sz9) rfl rfl rfl ?_
    obtain ⟨l11, hy11, hf⟩ := bnd hf
    refine Ops.storeN (off := 1) (cs := [vs y7.key_, vs y7.value_]) (cs' := [vs y7.key_, vs p2]) 2 hst4 rfl f1 rfl hA10 ho10 hy11 f10 rfl rfl rfl rfl rfl rfl sz9 rfl (by simp [Value.oneCell']) (by simp) (fun d11 w11 f11 hn11 hst11 => ?_)
    refine Ops.nil ?_
    refine Run.seq ?_
    refine Run.region ?_
    refine Ops.ex (Ex.assign rfl) rfl rfl rfl ?_
    refine Ops.nil ?_
    have hst12 := hst11
    rw [← hn11] at hst12
    replace hst12 : Ht w0 (frz z4 :: (blk g0 [.slice A1 l11.length c1] 128) :: (orow 153 2 (.slice A1 l11.length c1) l11.length d11) :: X) _ := hst12
    obtain rfl := Option.some.inj hf
    exact Run.retV [vb false] rfl ⟨rfl, trivial⟩ ⟨z4, A1, c1, d11, rfl, hle0, f11, hst12⟩
  · replace hf := ifFb hc hf
    refine Run.skip ?_
    refine Run.seq ?_
    refine Run.region ?_
    refine Ops.ex (Ex.move rfl) rfl rfl rfl ?_
    refine Ops.ex (Ex.move rfl) rfl rfl rfl ?_
    refine Ops.ex (Ex.nilCheck rfl) rfl rfl rfl ?_
    refine Ops.ex (Ex.fieldAddr rfl Tryd.underlying128 rfl sz126) rfl rfl rfl ?_
    refine Ops.load rfl Tryd.underlying126 rfl (hst4.cell (i := 1) rfl rfl) rfl ?_
    refine Ops.ex (Ex.move rfl) rfl rfl rfl ?_
    refine Ops.ex (Ex.move rfl) rfl rfl rfl ?_
    refine Ops.ex (Ex.move rfl) rfl rfl rfl ?_
    refine Ops.ex (Ex.build [vs p1, vs p2] rfl Tryd.underlying153 zr153 (pl153 Tryd.underlying153) (by kernel_rfl)) rfl rfl rfl ?_
    refine Ops.sliceF [vs p1, vs p2] hst4 rfl Tryd.underlying126 sz153 zr153 rfl rfl (by kernel_rfl) rfl (by simp [Value.oneCell']) rfl (fun A13 w13 hst13 => ?_)
    have f13 : Cs tsorteditemstringstring z4 [vs p1, vs p2] [(⟨p1, p2⟩ : sorteditemstringstring)] := (Cs.cons (c := [vs p1, vs p2]) rfl (Cs.nil _ _))
    obtain ⟨y14, hy14, hf⟩ := bnd hf
    refine Ops.call rfl rfl Tryd.func72 (by kernel_rfl) (by kernel_rfl) rfl (InsS.insS.walk (p0 := p0.items_) (p1 := y4.1) (p2 := [(⟨p1, p2⟩ : sorteditemstringstring)]) (hst := (St.up (St.up (St.up (St.up hst13 2 rfl) 2 rfl) 3 rfl) 3 rfl)) (f0 := f1) (f2 := f13) (hf := hy14)) ?_
    rintro _ w14 ⟨z14, A15, c15, d15, rfl, hz14, f15, hst14⟩
    refine ⟨_, rfl, ?_⟩
    replace hle0 := hle0.trans hz14
    refine Ops.ex (Ex.nilCheck rfl) rfl rfl rfl ?_
    refine Ops.ex (Ex.fieldAddr rfl Tryd.underlying128 rfl sz126) rfl rfl rfl ?_
    refine Ops.store 2 [.slice A15 y14.length c15] hst14 rfl rfl rfl rfl sz126 rfl (by simp [Value.oneCell']) (by simp) (fun w16 hst16 => ?_)
    refine Ops.nil ?_
    refine Run.seq ?_
    refine Run.region ?_
    refine Ops.ex (Ex.assign rfl) rfl rfl rfl ?_
    refine Ops.nil ?_
    obtain rfl := Option.some.inj hf
    exact Run.retV [vb true] rfl ⟨rfl, trivial⟩ ⟨z14, A15, c15, d15, rfl, hle0, f15, (St.up (St.up (St.up hst16 1 rfl) 2 rfl) 2 rfl)⟩
def go_sorted_Map_string_string_Len (p0 : sortedMapstringstring) : Option Int :=
  some (p0.items_.length : Int)
set_option maxRecDepth 100000 in
set_option maxHeartbeats 4000000 in
theorem go_sorted_Map_string_string_Len.walk {w0 w : World} {X : List Res} {z0 : Zp} {p0 : sortedMapstringstring} {g0 : Nat} {A1 : Option Addr} {c1 : Nat} {d1 : List Value} {r : Int} (hst : Ht w0 (frz z0 :: (blk g0 [.slice A1 p0.items_.length c1] 128) :: (orow 153 2 (.slice A1 p0.items_.length c1) p0.items_.length d1) :: X) w) (f1 : Cs tsorteditemstringstring z0 d1 p0.items_) (hf : go_sorted_Map_string_string_Len p0 = some r) :
    Calls Tryd.prog 55 #[.pointer (some ⟨g0, 0, none⟩)] w fun e w' => ∃ (z' : Zp), e = .returned (vi r) ∧ Le z0 z' ∧ Ht w0 (frz z' :: (blk g0 [.slice A1 p0.items_.length c1] 128) :: (orow 153 2 (.slice A1 p0.items_.length c1) p0.items_.length d1) :: X) w' := by
  refine calls_np Tryd.func55 rfl rfl ?_
  have hle0 := Le.refl z0
  unfold go_sorted_Map_string_string_Len at hf
  refine Run.seq ?_
  refine Run.region ?_
  refine Ops.ex (Ex.assign rfl) rfl rfl rfl ?_
  refine Ops.nil ?_
  refine Run.seq ?_
  refine Run.region ?_
  refine Ops.ex (Ex.move rfl) rfl rfl rfl ?_
  refine Ops.ex (Ex.nilCheck rfl) rfl rfl rfl ?_
  refine Ops.ex (Ex.fieldAddr rfl Tryd.underlying128 rfl sz126) rfl rfl rfl ?_
  refine Ops.load rfl Tryd.underlying126 rfl (hst.cell (i := 1) rfl rfl) rfl ?_
  refine Ops.ex (Ex.len' rfl rfl rfl Tryd.underlying126) rfl rfl rfl ?_
  refine Ops.ex (Ex.assign rfl) rfl rfl rfl ?_
  refine Ops.nil ?_
  obtain rfl := Option.some.inj hf
  exact Run.retV [vi (p0.items_.length : Int)] rfl ⟨rfl, trivial⟩ ⟨z0, rfl, hle0, hst⟩
def go_slices_Delete_sorted_item_string_string_sorted_item_string_string (p0 : List sorteditemstringstring) (p1 : Int) (p2 : Int) : Option (List sorteditemstringstring) :=
  (cutI p0 p1 p2).bind fun l4 => (cap3 p0.length p2 (p0.length : Int)).bind fun _ => if p1 = p2 then (some p0) else ((cutI p0 0 p1).bind fun l6 => (cutI p0 p2 (p0.length : Int)).bind fun l7 => (apB 32 l6 l7).bind fun l8 => some l8)
set_option maxRecDepth 100000 in
set_option maxHeartbeats 4000000 in
theorem go_slices_Delete_sorted_item_string_string_sorted_item_string_string.walk {w0 w : World} {X : List Res} {z0 : Zp} {p0 : List sorteditemstringstring} {A1 : Option Addr} {c1 : Nat} {d1 : List Value} {p1 : Int} {p2 : Int} {r : List sorteditemstringstring} (hst : Ht w0 (frz z0 :: (orow 153 2 (.slice A1 p0.length c1) p0.length d1) :: X) w) (f1 : Cs tsorteditemstringstring z0 d1 p0) (hf : go_slices_Delete_sorted_item_string_string_sorted_item_string_string p0 p1 p2 = some r) :
    Calls Tryd.prog 73 #[.slice A1 p0.length c1, vi p1, vi p2] w fun e w' => ∃ (z' : Zp) (A9001 : Option Addr) (c9001 : Nat) (d9001 : List Value), e = .returned (.slice A9001 r.length c9001) ∧ Le z0 z' ∧ Cs tsorteditemstringstring z' d9001 r ∧ Ht w0 (frz z' :: (orow 153 2 (.slice A9001 r.length c9001) r.length d9001) :: X) w' := by
  refine calls_np Tryd.func73 rfl rfl ?_
  have hle0 := Le.refl z0
  unfold go_slices_Delete_sorted_item_string_string_sorted_item_string_string at hf
  refine Run.seq ?_
  refine Run.region ?_
  refine Ops.ex (Ex.assign rfl) rfl rfl rfl ?_
  refine Ops.nil ?_
  refine Run.seq ?_
  refine Run.region ?_
  refine Ops.ex (Ex.move rfl) rfl rfl rfl ?_
  refine Ops.ex (Ex.move rfl) rfl rfl rfl ?_
  refine Ops.ex (Ex.move rfl) rfl rfl rfl ?_
  refine Ops.ex (Ex.move rfl) rfl rfl rfl ?_
  refine Ops.ex (Ex.len' rfl rfl rfl Tryd.underlying126) rfl rfl rfl ?_
  obtain ⟨l4, hy4, hf⟩ := bnd hf
  obtain ⟨_, hq4, hf⟩ := bnd hf
  replace hq4 := cap3_some hq4
  skip
  obtain ⟨hl4, _⟩ := own_room f1 rfl (hst.get (i := 1) rfl)
  refine Ops.ex (Ex.sub3 hl4 hy4 hq4 rfl rfl Tryd.underlying126 sz153 rfl rfl rfl) rfl rfl rfl ?_
  refine Ops.nil ?_
  refine Run.seq ?_
  refine Run.seq ?_
  refine Run.region ?_
  refine Ops.ex (Ex.move rfl) rfl rfl rfl ?_
  refine Ops.ex (Ex.move rfl) rfl rfl rfl ?_
  refine Ops.ex (Ex.eqlI rfl rfl) rfl rfl rfl ?_
  refine Ops.nil ?_
  refine Run.cond rfl (fun hc => ?_) (fun hc => ?_)
  · replace hf := ifT (dec_T hc) hf
    refine Run.seq ?_
    refine Run.region ?_
    refine Ops.ex (Ex.move rfl) rfl rfl rfl ?_
    refine Ops.ex (Ex.assign rfl) rfl rfl rfl ?_
    refine Ops.nil ?_
    obtain rfl := Option.some.inj hf
    exact Run.retV [.slice A1 p0.length c1] rfl ⟨rfl, trivial⟩ ⟨z0, A1, c1, d1, rfl, hle0, f1, hst⟩
  · replace hf := ifF (dec_F hc) hf
    refine Run.skip ?_
    refine Run.seq ?_
    refine Run.region ?_
    refine Ops.ex (Ex.move rfl) rfl rfl rfl ?_
    refine Ops.ex (Ex.len' rfl rfl rfl Tryd.underlying126) rfl rfl rfl ?_
    refine Ops.ex (Ex.assign rfl) rfl rfl rfl ?_
    refine Ops.nil ?_
    refine Run.seq ?_
    refine Run.drawH [] (by kernel_rfl) hst (fun w5 hst5 => ?_)
    refine Any.takeE 0 rfl rfl rfl rfl (by kernel_rfl) (fun _ _ _ _ _ h => h) ((Ex.move rfl).s) ?_
    refine Any.takeE 1 rfl rfl rfl rfl (by kernel_rfl) (fun _ _ _ _ _ h => h) ((Ex.move rfl).s) ?_
    obtain ⟨l6, hy6, hf⟩ := bnd hf
    obtain ⟨hl6, f6⟩ := own_pre f1 rfl (hst5.get (i := 1) rfl) hy6
    refine Any.takeE 2 rfl rfl rfl rfl (by kernel_rfl) (fun _ _ _ _ _ h => h) ((Ex.preA hl6 hy6 rfl rfl Tryd.underlying126 sz153 rfl rfl).s) ?_
    refine Any.takeE 3 rfl rfl rfl rfl (by kernel_rfl) (fun _ _ _ _ _ h => h) ((Ex.move rfl).s) ?_
    refine Any.takeE 4 rfl rfl rfl rfl (by kernel_rfl) (fun _ _ _ _ _ h => h) ((Ex.move rfl).s) ?_
    obtain ⟨l7, hy7, hf⟩ := bnd hf
    obtain ⟨A7, c7, hA7, hB7, f7⟩ := own_sub f1 rfl (hst5.get (i := 1) rfl) hy7
    refine Any.takeE 5 rfl rfl rfl rfl (by kernel_rfl) (fun _ _ _ _ _ h => h) ((Ex.subA hA7 hB7 hy7 rfl rfl Tryd.underlying126 sz153 rfl rfl).s) ?_
    have hv8 := (f7 _ (hst5.get (i := 1) rfl))
    obtain ⟨fC8, hC8⟩ := St.cutRow 1 hst5 rfl f1 rfl hy6 (Nat.le_trans (cut_le hy6 rfl) hl6) (Nat.le_refl _)
    have hst8 : Ht w0 (frz z0 :: (orow 153 2 (.slice A1 l6.length c1) l6.length (List.take (l6.length * 2) d1)) :: X) _ := hC8
    obtain ⟨l8, hy8, hf⟩ := bnd hf
    refine Any.one 6 (by kernel_rfl) rfl rfl (One.of_ops rfl ?_)
    refine Ops.appIn 1 hst8 rfl fC8 rfl hv8 rfl (by (have := cut_all hy4; have := cut_all hy6; have := cut_all hy7; have := (own_room f1 rfl (hst5.get (i := 1) rfl)).1; omega)) hy8 rfl rfl rfl rfl Tryd.underlying126 inf153 rfl (by decide) (by decide) rfl (fun d8 w8 f8 hr8 hst10 => Ops.stop ?_)
    have hq28 := apB_len hy8
    refine ⟨trivial, ?_⟩
    refine Any.takeE 7 rfl rfl rfl rfl (by kernel_rfl) (fun _ _ _ _ _ h => h) ((Ex.assign rfl).s) ?_
    refine Any.done (by kernel_rfl) ?_
    refine Run.seq ?_
    refine Run.region ?_
    refine Ops.ex (Ex.move rfl) rfl rfl rfl ?_
    refine Ops.ex (Ex.move rfl) rfl rfl rfl ?_
    refine Ops.ex (Ex.len' rfl rfl rfl Tryd.underlying126) rfl rfl rfl ?_
    refine Ops.ex (Ex.move rfl) rfl rfl rfl ?_
    have hT11 : (l8.length : Int) ≤ (p0.length : Int) ∧ (p0.length : Int) ≤ (c1 : Int) := by (have := cut_all hy4; have := cut_all hy6; have := cut_all hy7; have := apB_len hy8; have := (own_room f8 rfl (hst10.get (i := 1) rfl)).1; omega)
    refine Ops.ex (Ex.cut (i := (l8.length : Int)) (j := (p0.length : Int)) rfl Tryd.underlying126 sz153 rfl rfl (by omega) hT11.1 hT11.2) rfl rfl rfl ?_
    refine Ops.clearT (m := ((p0.length : Int).toNat - (l8.length : Int).toNat)) (l := l8.length) (c := c1) 1 hst10 rfl rfl (by (have := cut_all hy4; have := cut_all hy6; have := cut_all hy7; have := apB_len hy8; have := (own_room f8 rfl (hst10.get (i := 1) rfl)).1; omega)) rfl rfl rfl Tryd.underlying126 zr153 rfl (by simp [Value.oneCell', Value.cells]) (fun w12 hst12 => ?_)
    refine Ops.nil ?_
    refine Run.seq ?_
    refine Run.region ?_
    refine Ops.ex (Ex.move rfl) rfl rfl rfl ?_
    refine Ops.ex (Ex.assign rfl) rfl rfl rfl ?_
    refine Ops.nil ?_
    obtain rfl := Option.some.inj hf
    exact Run.retV [.slice A1 l8.length c1] rfl ⟨rfl, trivial⟩ ⟨z0, A1, c1, d8, rfl, hle0, f8, hst12⟩
def go_sorted_Map_string_string_Del (p0 : sortedMapstringstring) (p1 : Str) : Option (Bool × sortedMapstringstring) :=
  (go_sorted_Map_string_string_find p0 p1).bind fun y3 => if y3.2 then ((go_slices_Delete_sorted_item_string_string_sorted_item_string_string p0.items_ y3.1 (wr (y3.1 + 1))).bind fun y6 => some (y3.2, (⟨y6⟩ : sortedMapstringstring))) else (some (y3.2, p0))
set_option maxRecDepth 100000 in
set_option maxHeartbeats 4000000 in
theorem go_sorted_Map_string_string_Del.walk {w0 w : World} {X : List Res} {z0 : Zp} {p0 : sortedMapstringstring} {g0 : Nat} {A1 : Option Addr} {c1 : Nat} {d1 : List Value} {p1 : Str} {r : Bool × sortedMapstringstring} (hst : Ht w0 (frz z0 :: (blk g0 [.slice A1 p0.items_.length c1] 128) :: (orow 153 2 (.slice A1 p0.items_.length c1) p0.items_.length d1) :: X) w) (f1 : Cs tsorteditemstringstring z0 d1 p0.items_) (hf : go_sorted_Map_string_string_Del p0 p1 = some r) :
    Calls Tryd.prog 56 #[.pointer (some ⟨g0, 0, none⟩), vs p1] w fun e w' => ∃ (z' : Zp) (A9002 : Option Addr) (c9002 : Nat) (d9002 : List Value), e = .returned (vb r.1) ∧ Le z0 z' ∧ Cs tsorteditemstringstring z' d9002 r.2.items_ ∧ Ht w0 (frz z' :: (blk g0 [.slice A9002 r.2.items_.length c9002] 128) :: (orow 153 2 (.slice A9002 r.2.items_.length c9002) r.2.items_.length d9002) :: X) w' := by
  refine calls_np Tryd.func56 rfl rfl ?_
  have hle0 := Le.refl z0
  unfold go_sorted_Map_string_string_Del at hf
  refine Run.seq ?_
  refine Run.region ?_
  refine Ops.ex (Ex.assign rfl) rfl rfl rfl ?_
  refine Ops.nil ?_
  refine Run.seq ?_
  refine Run.region ?_
  refine Ops.ex (Ex.move rfl) rfl rfl rfl ?_
  refine Ops.ex (Ex.move rfl) rfl rfl rfl ?_
  obtain ⟨y3, hy3, hf⟩ := bnd hf
  refine Ops.call rfl rfl Tryd.func71 (by kernel_rfl) (by kernel_rfl) rfl (go_sorted_Map_string_string_find.walk (p0 := p0) (p1 := p1) (hst := hst) (f1 := f1) (hf := hy3)) ?_
  rintro _ w3 ⟨z3, rfl, hz3, hst3⟩
  refine ⟨_, rfl, ?_⟩
  replace f1 := f1.mono hz3
  replace hle0 := hle0.trans hz3
  refine Ops.ex (Ex.move rfl) rfl rfl rfl ?_
  refine Ops.ex (Ex.extract rfl rfl) rfl rfl rfl ?_
  refine Ops.ex (Ex.extract rfl rfl) rfl rfl rfl ?_
  refine Ops.ex (Ex.assign rfl) rfl rfl rfl ?_
  refine Ops.ex (Ex.assign rfl) rfl rfl rfl ?_
  refine Ops.nil ?_
  refine Run.seq ?_
  refine Run.seq ?_
  refine Run.region ?_
  refine Ops.ex (Ex.move rfl) rfl rfl rfl ?_
  refine Ops.nil ?_
  refine Run.cond rfl (fun hc => ?_) (fun hc => ?_)
  · replace hf := ifTb hc hf
    refine Run.region ?_
    refine Ops.ex (Ex.move rfl) rfl rfl rfl ?_
    refine Ops.ex (Ex.move rfl) rfl rfl rfl ?_
    refine Ops.ex (Ex.nilCheck rfl) rfl rfl rfl ?_
    refine Ops.ex (Ex.fieldAddr rfl Tryd.underlying128 rfl sz126) rfl rfl rfl ?_
    refine Ops.load rfl Tryd.underlying126 rfl (hst3.cell (i := 1) rfl rfl) rfl ?_
    refine Ops.ex (Ex.move rfl) rfl rfl rfl ?_
    refine Ops.ex (Ex.move rfl) rfl rfl rfl ?_
    refine Ops.ex (Ex.add rfl rfl) rfl rfl rfl ?_
    obtain ⟨y6, hy6, hf⟩ := bnd hf
    refine Ops.call rfl rfl Tryd.func73 (by kernel_rfl) (by kernel_rfl) rfl (go_slices_Delete_sorted_item_string_string_sorted_item_string_string.walk (p0 := p0.items_) (p1 := y3.1) (p2 := (wr (y3.1 + 1))) (hst := (St.up (St.up (St.up hst3 1 rfl) 2 rfl) 2 rfl)) (f1 := f1) (hf := hy6)) ?_
    rintro _ w6 ⟨z6, A7, c7, d7, rfl, hz6, f7, hst6⟩
    refine ⟨_, rfl, ?_⟩
    replace hle0 := hle0.trans hz6
    refine Ops.ex (Ex.nilCheck rfl) rfl rfl rfl ?_
    refine Ops.ex (Ex.fieldAddr rfl Tryd.underlying128 rfl sz126) rfl rfl rfl ?_
    refine Ops.store 2 [.slice A7 y6.length c7] hst6 rfl rfl rfl rfl sz126 rfl (by simp [Value.oneCell']) (by simp) (fun w8 hst8 => ?_)
    refine Ops.nil ?_
    refine Run.seq ?_
    refine Run.region ?_
    refine Ops.ex (Ex.move rfl) rfl rfl rfl ?_
    refine Ops.ex (Ex.assign rfl) rfl rfl rfl ?_
    refine Ops.nil ?_
    obtain rfl := Option.some.inj hf
    exact Run.retV [vb y3.2] rfl ⟨rfl, trivial⟩ ⟨z6, A7, c7, d7, rfl, hle0, f7, (St.up (St.up (St.up hst8 1 rfl) 2 rfl) 2 rfl)⟩
  · replace hf := ifFb hc hf
    refine Run.skip ?_
    refine Run.seq ?_
    refine Run.region ?_
    refine Ops.ex (Ex.move rfl) rfl rfl rfl ?_
    refine Ops.ex (Ex.assign rfl) rfl rfl rfl ?_
    refine Ops.nil ?_
    obtain rfl := Option.some.inj hf
    exact Run.retV [vb y3.2] rfl ⟨rfl, trivial⟩ ⟨z3, A1, c1, d1, rfl, hle0, f1, hst3⟩
def go_sorted_Map_int_api_Session_All (p0 : sortedMapintapiSession) : Option Unit :=
  some ()
set_option maxRecDepth 100000 in
set_option maxHeartbeats 4000000 in
theorem go_sorted_Map_int_api_Session_All.walk {w0 w : World} {X : List Res} {z0 : Zp} {p0 : sortedMapintapiSession} {g0 : Nat} {A1 : Option Addr} {c1 : Nat} {d1 : List Value} {r : Unit} (hst : Ht w0 (frz z0 :: (blk g0 [.slice A1 p0.items_.length c1] 121) :: (orow 125 5 (.slice A1 p0.items_.length c1) p0.items_.length d1) :: X) w) (f1 : Cs tsorteditemintapiSession z0 d1 p0.items_) (hf : go_sorted_Map_int_api_Session_All p0 = some r) :
    Calls Tryd.prog 43 #[.pointer (some ⟨g0, 0, none⟩)] w fun e w' => ∃ (z' : Zp) (g9001 : Nat), e = .returned (.func (.func 59) #[] #[.pointer (some ⟨g9001, 0, none⟩)]) ∧ Le z0 z' ∧ Ht w0 (frz z' :: (blk g0 [.slice A1 p0.items_.length c1] 121) :: (orow 125 5 (.slice A1 p0.items_.length c1) p0.items_.length d1) :: (blk g9001 [.pointer (some ⟨g0, 0, none⟩)] 95) :: X) w' := by
  refine calls_np Tryd.func43 rfl rfl ?_
  have hle0 := Le.refl z0
  unfold go_sorted_Map_int_api_Session_All at hf
  refine Run.seq ?_
  refine Run.region ?_
  refine Ops.boxF [.pointer (some ⟨g0, 0, none⟩)] hst rfl rfl rfl (fun g2 w2 hst2 => ?_)
  refine Ops.ex (Ex.assign rfl) rfl rfl rfl ?_
  refine Ops.nil ?_
  refine Run.seq ?_
  refine Run.region ?_
  refine Ops.ex (Ex.funcE rfl rfl) rfl rfl rfl ?_
  refine Ops.ex (Ex.assign rfl) rfl rfl rfl ?_
  refine Ops.nil ?_
  obtain rfl := Option.some.inj hf
  exact Run.retV [.func (.func 59) #[] #[.pointer (some ⟨g2, 0, none⟩)]] rfl ⟨rfl, trivial⟩ ⟨z0, g2, rfl, hle0, (St.up (St.up (St.up (St.up hst2 1 rfl) 3 rfl) 3 rfl) 3 rfl)⟩
def go_sorted_Map_string_string_All (p0 : sortedMapstringstring) : Option Unit :=
  some ()
set_option maxRecDepth 100000 in
set_option maxHeartbeats 4000000 in
theorem go_sorted_Map_string_string_All.walk {w0 w : World} {X : List Res} {z0 : Zp} {p0 : sortedMapstringstring} {g0 : Nat} {A1 : Option Addr} {c1 : Nat} {d1 : List Value} {r : Unit} (hst : Ht w0 (frz z0 :: (blk g0 [.slice A1 p0.items_.length c1] 128) :: (orow 153 2 (.slice A1 p0.items_.length c1) p0.items_.length d1) :: X) w) (f1 : Cs tsorteditemstringstring z0 d1 p0.items_) (hf : go_sorted_Map_string_string_All p0 = some r) :
    Calls Tryd.prog 57 #[.pointer (some ⟨g0, 0, none⟩)] w fun e w' => ∃ (z' : Zp) (g9001 : Nat), e = .returned (.func (.func 74) #[] #[.pointer (some ⟨g9001, 0, none⟩)]) ∧ Le z0 z' ∧ Ht w0 (frz z' :: (blk g0 [.slice A1 p0.items_.length c1] 128) :: (orow 153 2 (.slice A1 p0.items_.length c1) p0.items_.length d1) :: (blk g9001 [.pointer (some ⟨g0, 0, none⟩)] 101) :: X) w' := by
  refine calls_np Tryd.func57 rfl rfl ?_
  have hle0 := Le.refl z0
  unfold go_sorted_Map_string_string_All at hf
  refine Run.seq ?_
  refine Run.region ?_
  refine Ops.boxF [.pointer (some ⟨g0, 0, none⟩)] hst rfl rfl rfl (fun g2 w2 hst2 => ?_)
  refine Ops.ex (Ex.assign rfl) rfl rfl rfl ?_
  refine Ops.nil ?_
  refine Run.seq ?_
  refine Run.region ?_
  refine Ops.ex (Ex.funcE rfl rfl) rfl rfl rfl ?_
  refine Ops.ex (Ex.assign rfl) rfl rfl rfl ?_
  refine Ops.nil ?_
  obtain rfl := Option.some.inj hf
  exact Run.retV [.func (.func 74) #[] #[.pointer (some ⟨g2, 0, none⟩)]] rfl ⟨rfl, trivial⟩ ⟨z0, g2, rfl, hle0, (St.up (St.up (St.up (St.up hst2 1 rfl) 3 rfl) 3 rfl) 3 rfl)⟩
def go_state_sessions.b1 (i7 : Nat) (a7 : apiSession) : (List sorteditemintapiSession) → (List sorteditemintapiSession → Option sortedMapintapiSession) → Option sortedMapintapiSession :=
  fun l40 nxb7 => (go_sorted_Map_int_api_Session_Put (⟨l40⟩ : sortedMapintapiSession) a7.Client a7).bind fun y51 => nxb7 y51.2.items_
def go_state_sessions (p0 : apiState) : Option sortedMapintapiSession :=
  forL (go_state_sessions.b1) (fun l40 => some (⟨l40⟩ : sortedMapintapiSession)) 0 p0.Sessions []
set_option maxRecDepth 100000 in
set_option maxHeartbeats 4000000 in
theorem go_state_sessions.walk {w0 w : World} {X : List Res} {z0 : Zp} {p0 : apiState} {A3 : Option Addr} {c3 : Nat} {A4 : Option Addr} {c4 : Nat} {r : sortedMapintapiSession} (hst : Ht w0 (frz z0 :: X) w) (f3 : Sl tapiPair z0 A3 c3 p0.Pairs) (f4 : Sl tapiSession z0 A4 c4 p0.Sessions) (hf : go_state_sessions p0 = some r) :
    Calls Tryd.prog 37 #[.agg #[vi p0.Index, vi p0.Term, .slice A3 p0.Pairs.length c3, .slice A4 p0.Sessions.length c4]] w fun e w' => ∃ (z' : Zp) (g9001 : Nat) (A9002 : Option Addr) (c9002 : Nat) (d9002 : List Value), e = .returned (.pointer (some ⟨g9001, 0, none⟩)) ∧ Le z0 z' ∧ Cs tsorteditemintapiSession z' d9002 r.items_ ∧ Ht w0 (frz z' :: (blk g9001 [.slice A9002 r.items_.length c9002] 121) :: (orow 125 5 (.slice A9002 r.items_.length c9002) r.items_.length d9002) :: X) w' := by
  refine calls_np Tryd.func37 rfl rfl ?_
  have hle0 := Le.refl z0
  unfold go_state_sessions at hf
  refine Run.seq ?_
  refine Run.region ?_
  refine Ops.boxF [vi p0.Index, vi p0.Term, .slice A3 p0.Pairs.length c3, .slice A4 p0.Sessions.length c4] hst rfl rfl rfl (fun g5 w5 hst5 => ?_)
  refine Ops.ex (Ex.assign rfl) rfl rfl rfl ?_
  refine Ops.nil ?_
  refine Run.seq ?_
  refine Run.region ?_
  refine Ops.ex (Ex.build [.slice none 0 0] rfl Tryd.underlying121 zr121 (pl121 Tryd.underlying121) (by kernel_rfl)) rfl rfl rfl ?_
  refine Ops.boxF [.slice none 0 0] hst5 rfl rfl rfl (fun g6 w6 hst6 => ?_)
  refine Ops.ex (Ex.assign rfl) rfl rfl rfl ?_
  refine Ops.nil ?_
  refine Run.seq ?_
  refine Run.seq ?_
  refine Run.region ?_
  refine Ops.ex (Ex.fieldAddr rfl Tryd.underlying47 rfl sz45) rfl rfl rfl ?_
  refine Ops.load rfl Tryd.underlying45 rfl (hst6.cell (i := 2) rfl rfl) rfl ?_
  refine Ops.ex (Ex.len' rfl rfl rfl Tryd.underlying45) rfl rfl rfl ?_
  refine Ops.ex (Ex.move rfl) rfl rfl rfl ?_
  refine Ops.nil ?_
  refine Run.block ?_
  have hc7 := f4.cap
  have hst41 := hst6.row0 125 5
  refine Run.sub (e' := [(3, .pointer (some ⟨g6, 0, none⟩)), (9, .slice A4 p0.Sessions.length c4), (10, vi (p0.Sessions.length : Int)), (11, vi ((0 : Nat) : Int))]) (subB_spec ⟨rfl, rfl, rfl, rfl, trivial⟩) ?_
  refine Run.loop (fun mb7 => (fun e' w' => ∃ (i7 : Nat) (l40 : List sorteditemintapiSession) (A40 : Option Addr) (c40 : Nat) (d40 : List Value) (z39 : Zp), mb7 = p0.Sessions.length - i7 ∧ i7 ≤ p0.Sessions.length ∧ forL (go_state_sessions.b1) (fun l40 => some (⟨l40⟩ : sortedMapintapiSession)) i7 (p0.Sessions.drop i7) l40 = some r ∧ e' = [(3, .pointer (some ⟨g6, 0, none⟩)), (9, .slice A4 p0.Sessions.length c4), (10, vi (p0.Sessions.length : Int)), (11, vi (i7 : Int))] ∧ Le z0 z39 ∧ Cs tsorteditemintapiSession z39 d40 l40 ∧ Ht w0 (frz z39 :: (orow 125 5 (.slice A40 l40.length c40) l40.length d40) :: (blk g6 [.slice A40 l40.length c40] 121) :: X) w')) p0.Sessions.length ⟨0, [], none, 0, [], z0, rfl, Nat.zero_le _, hf, rfl, hle0, (Cs.nil _ _), (St.forget hst41 3)⟩ ?_
  rintro _ e' w43 ⟨i7, l40, A40, c40, d40, z39, rfl, hi7, hf, rfl, hz43, f40, hst43⟩
  replace f4 := f4.mono hz43
  refine Run.seq ?_
  refine Run.region ?_
  refine Ops.ex (Ex.lss rfl rfl) rfl rfl rfl ?_
  refine Ops.nil ?_
  refine Run.seq ?_
  refine Run.cond rfl (fun hc => ?_) (fun hc => ?_)
  · have hl7 := lt_of_dec hc
    obtain ⟨a7, nxb7, ha7, hnxb7, hf⟩ := forL_in hf hl7
    unfold go_state_sessions.b1 at hf
    try dsimp only at hf
    refine Run.skip ?_
    refine Run.seq ?_
    refine Run.block ?_
    refine Run.seq ?_
    refine Run.region ?_
    obtain ⟨g48, p48, o48, cs48, hA48, ho48, hr48, f48⟩ := SlH.elem f4.toH (atI_nat ha7)
    obtain rfl := hr48
    refine Ops.ex (Ex.ixA hA48 ho48 (atI_nat ha7) rfl rfl rfl Tryd.underlying45 sz98) rfl rfl rfl ?_
    refine Ops.loadAgg [vi a7.Client, vi a7.Seq, vi a7.Reply.Err, vs a7.Reply.Value] rfl Tryd.underlying98 rfl sz98 rfl (cells_of_zc rfl (f48.mono hst43.le)) rfl ?_
    refine Ops.allocF [vi 0, vi 0, vi 0, vs []] hst43 zr98 rfl rfl (fun g49 w49 hst49 => ?_)
    refine Ops.store 1 [vi a7.Client, vi a7.Seq, vi a7.Reply.Err, vs a7.Reply.Value] hst49 rfl rfl rfl rfl sz98 rfl (by simp [Value.oneCell']) (by simp) (fun w50 hst50 => ?_)
    refine Ops.nil ?_
    refine Run.region ?_
    refine Ops.ex (Ex.move rfl) rfl rfl rfl ?_
    refine Ops.ex (Ex.fieldAddr rfl Tryd.underlying98 rfl sz3) rfl rfl rfl ?_
    refine Ops.load rfl Tryd.underlying3 rfl (hst50.cell (i := 1) rfl rfl) rfl ?_
    refine Ops.loadAgg _ rfl Tryd.underlying98 rfl sz98 rfl (hst50.cells (i := 1) rfl 0 4) rfl ?_
    obtain ⟨y51, hy51, hf⟩ := bnd hf
    refine Ops.call rfl rfl Tryd.func42 (by kernel_rfl) (by kernel_rfl) rfl (go_sorted_Map_int_api_Session_Put.walk (p0 := (⟨l40⟩ : sortedMapintapiSession)) (p1 := a7.Client) (p2 := a7) (hst := (St.up (St.up (St.up (St.up hst50 1 rfl) 2 rfl) 3 rfl) 3 rfl)) (f1 := f40) (hf := hy51)) ?_
    rintro _ w51 ⟨z51, A53, c53, d53, rfl, hz51, f53, hst51⟩
    refine ⟨_, rfl, ?_⟩
    replace f4 := f4.mono hz51; replace f48 := f48.mono hz51
    replace hz43 := hz43.trans hz51
    refine Ops.nil ?_
    refine Run.endBlk ?_
    refine Run.region ?_
    refine Ops.ex (Ex.add rfl rfl) rfl rfl rfl ?_
    refine Ops.ex (Ex.move rfl) rfl rfl rfl ?_
    refine Ops.nil ?_
    refine Run.re 11 rfl (congrArg vi (wr_succ' hl7 hc7)) ?_
    exact Run.sub (by exact subB_spec ⟨rfl, rfl, rfl, rfl, trivial⟩) (Run.stop ⟨p0.Sessions.length - (i7 + 1), by omega, i7 + 1, y51.2.items_, A53, c53, d53, z51, rfl, by omega, (hnxb7 _).symm.trans hf, rfl, hz43, f53, (St.up (St.up (St.up (St.forget hst51 3) 1 rfl) 2 rfl) 2 rfl)⟩)
  · replace hf := forL_out hf (nlt_of_dec hc)
    try dsimp only at hf
    refine Run.exit _ rfl ?_
    refine Run.seq ?_
    refine Run.region ?_
    refine Ops.ex (Ex.move rfl) rfl rfl rfl ?_
    refine Ops.ex (Ex.assign rfl) rfl rfl rfl ?_
    refine Ops.nil ?_
    obtain rfl := Option.some.inj hf
    exact Run.retV [.pointer (some ⟨g6, 0, none⟩)] rfl ⟨rfl, trivial⟩ ⟨z39, g6, A40, c40, d40, rfl, hz43, f40, (St.up (St.up (St.up hst43 1 rfl) 2 rfl) 2 rfl)⟩
def go_state_pairs.b1 (i7 : Nat) (a7 : apiPair) : (List sorteditemstringstring) → (List sorteditemstringstring → Option sortedMapstringstring) → Option sortedMapstringstring :=
  fun l38 nxb7 => (go_sorted_Map_string_string_Put (⟨l38⟩ : sortedMapstringstring) a7.Key a7.Value).bind fun y48 => nxb7 y48.2.items_
def go_state_pairs (p0 : apiState) : Option sortedMapstringstring :=
  forL (go_state_pairs.b1) (fun l38 => some (⟨l38⟩ : sortedMapstringstring)) 0 p0.Pairs []
set_option maxRecDepth 100000 in
set_option maxHeartbeats 4000000 in
theorem go_state_pairs.walk {w0 w : World} {X : List Res} {z0 : Zp} {p0 : apiState} {A3 : Option Addr} {c3 : Nat} {A4 : Option Addr} {c4 : Nat} {r : sortedMapstringstring} (hst : Ht w0 (frz z0 :: X) w) (f3 : Sl tapiPair z0 A3 c3 p0.Pairs) (f4 : Sl tapiSession z0 A4 c4 p0.Sessions) (hf : go_state_pairs p0 = some r) :
    Calls Tryd.prog 39 #[.agg #[vi p0.Index, vi p0.Term, .slice A3 p0.Pairs.length c3, .slice A4 p0.Sessions.length c4]] w fun e w' => ∃ (z' : Zp) (g9001 : Nat) (A9002 : Option Addr) (c9002 : Nat) (d9002 : List Value), e = .returned (.pointer (some ⟨g9001, 0, none⟩)) ∧ Le z0 z' ∧ Cs tsorteditemstringstring z' d9002 r.items_ ∧ Ht w0 (frz z' :: (blk g9001 [.slice A9002 r.items_.length c9002] 128) :: (orow 153 2 (.slice A9002 r.items_.length c9002) r.items_.length d9002) :: X) w' := by
  refine calls_np Tryd.func39 rfl rfl ?_
  have hle0 := Le.refl z0
  unfold go_state_pairs at hf
  refine Run.seq ?_
  refine Run.region ?_
  refine Ops.boxF [vi p0.Index, vi p0.Term, .slice A3 p0.Pairs.length c3, .slice A4 p0.Sessions.length c4] hst rfl rfl rfl (fun g5 w5 hst5 => ?_)
  refine Ops.ex (Ex.assign rfl) rfl rfl rfl ?_
  refine Ops.nil ?_
  refine Run.seq ?_
  refine Run.region ?_
  refine Ops.ex (Ex.build [.slice none 0 0] rfl Tryd.underlying128 zr128 (pl128 Tryd.underlying128) (by kernel_rfl)) rfl rfl rfl ?_
  refine Ops.boxF [.slice none 0 0] hst5 rfl rfl rfl (fun g6 w6 hst6 => ?_)
  refine Ops.ex (Ex.assign rfl) rfl rfl rfl ?_
  refine Ops.nil ?_
  refine Run.seq ?_
  refine Run.seq ?_
  refine Run.region ?_
  refine Ops.ex (Ex.fieldAddr rfl Tryd.underlying47 rfl sz44) rfl rfl rfl ?_
  refine Ops.load rfl Tryd.underlying44 rfl (hst6.cell (i := 2) rfl rfl) rfl ?_
  refine Ops.ex (Ex.len' rfl rfl rfl Tryd.underlying44) rfl rfl rfl ?_
  refine Ops.ex (Ex.move rfl) rfl rfl rfl ?_
  refine Ops.nil ?_
  refine Run.block ?_
  have hc7 := f3.cap
  have hst39 := hst6.row0 153 2
  refine Run.sub (e' := [(3, .pointer (some ⟨g6, 0, none⟩)), (9, .slice A3 p0.Pairs.length c3), (10, vi (p0.Pairs.length : Int)), (11, vi ((0 : Nat) : Int))]) (subB_spec ⟨rfl, rfl, rfl, rfl, trivial⟩) ?_
  refine Run.loop (fun mb7 => (fun e' w' => ∃ (i7 : Nat) (l38 : List sorteditemstringstring) (A38 : Option Addr) (c38 : Nat) (d38 : List Value) (z37 : Zp), mb7 = p0.Pairs.length - i7 ∧ i7 ≤ p0.Pairs.length ∧ forL (go_state_pairs.b1) (fun l38 => some (⟨l38⟩ : sortedMapstringstring)) i7 (p0.Pairs.drop i7) l38 = some r ∧ e' = [(3, .pointer (some ⟨g6, 0, none⟩)), (9, .slice A3 p0.Pairs.length c3), (10, vi (p0.Pairs.length : Int)), (11, vi (i7 : Int))] ∧ Le z0 z37 ∧ Cs tsorteditemstringstring z37 d38 l38 ∧ Ht w0 (frz z37 :: (orow 153 2 (.slice A38 l38.length c38) l38.length d38) :: (blk g6 [.slice A38 l38.length c38] 128) :: X) w')) p0.Pairs.length ⟨0, [], none, 0, [], z0, rfl, Nat.zero_le _, hf, rfl, hle0, (Cs.nil _ _), (St.forget hst39 3)⟩ ?_
  rintro _ e' w41 ⟨i7, l38, A38, c38, d38, z37, rfl, hi7, hf, rfl, hz41, f38, hst41⟩
  replace f3 := f3.mono hz41
  refine Run.seq ?_
  refine Run.region ?_
  refine Ops.ex (Ex.lss rfl rfl) rfl rfl rfl ?_
  refine Ops.nil ?_
  refine Run.seq ?_
  refine Run.cond rfl (fun hc => ?_) (fun hc => ?_)
  · have hl7 := lt_of_dec hc
    obtain ⟨a7, nxb7, ha7, hnxb7, hf⟩ := forL_in hf hl7
    unfold go_state_pairs.b1 at hf
    try dsimp only at hf
    refine Run.skip ?_
    refine Run.seq ?_
    refine Run.block ?_
    refine Run.seq ?_
    refine Run.region ?_
    obtain ⟨g45, p45, o45, cs45, hA45, ho45, hr45, f45⟩ := SlH.elem f3.toH (atI_nat ha7)
    obtain rfl := hr45
    refine Ops.ex (Ex.ixA hA45 ho45 (atI_nat ha7) rfl rfl rfl Tryd.underlying44 sz49) rfl rfl rfl ?_
    refine Ops.loadAgg [vs a7.Key, vs a7.Value, vb a7.Gone] rfl Tryd.underlying49 rfl sz49 rfl (cells_of_zc rfl (f45.mono hst41.le)) rfl ?_
    refine Ops.allocF [vs [], vs [], vb false] hst41 zr49 rfl rfl (fun g46 w46 hst46 => ?_)
    refine Ops.store 1 [vs a7.Key, vs a7.Value, vb a7.Gone] hst46 rfl rfl rfl rfl sz49 rfl (by simp [Value.oneCell']) (by simp) (fun w47 hst47 => ?_)
    refine Ops.nil ?_
    refine Run.region ?_
    refine Ops.ex (Ex.move rfl) rfl rfl rfl ?_
    refine Ops.ex (Ex.fieldAddr rfl Tryd.underlying49 rfl sz9) rfl rfl rfl ?_
    refine Ops.load rfl Tryd.underlying9 rfl (hst47.cell (i := 1) rfl rfl) rfl ?_
    refine Ops.ex (Ex.fieldAddr rfl Tryd.underlying49 rfl sz9) rfl rfl rfl ?_
    refine Ops.load rfl Tryd.underlying9 rfl (hst47.cell (i := 1) rfl rfl) rfl ?_
    obtain ⟨y48, hy48, hf⟩ := bnd hf
    refine Ops.call rfl rfl Tryd.func53 (by kernel_rfl) (by kernel_rfl) rfl (go_sorted_Map_string_string_Put.walk (p0 := (⟨l38⟩ : sortedMapstringstring)) (p1 := a7.Key) (p2 := a7.Value) (hst := (St.up (St.up (St.up (St.up hst47 1 rfl) 2 rfl) 3 rfl) 3 rfl)) (f1 := f38) (hf := hy48)) ?_
    rintro _ w48 ⟨z48, A50, c50, d50, rfl, hz48, f50, hst48⟩
    refine ⟨_, rfl, ?_⟩
    replace f3 := f3.mono hz48; replace f45 := f45.mono hz48
    replace hz41 := hz41.trans hz48
    refine Ops.nil ?_
    refine Run.endBlk ?_
    refine Run.region ?_
    refine Ops.ex (Ex.add rfl rfl) rfl rfl rfl ?_
    refine Ops.ex (Ex.move rfl) rfl rfl rfl ?_
    refine Ops.nil ?_
    refine Run.re 11 rfl (congrArg vi (wr_succ' hl7 hc7)) ?_
    exact Run.sub (by exact subB_spec ⟨rfl, rfl, rfl, rfl, trivial⟩) (Run.stop ⟨p0.Pairs.length - (i7 + 1), by omega, i7 + 1, y48.2.items_, A50, c50, d50, z48, rfl, by omega, (hnxb7 _).symm.trans hf, rfl, hz41, f50, (St.up (St.up (St.up (St.forget hst48 3) 1 rfl) 2 rfl) 2 rfl)⟩)
  · replace hf := forL_out hf (nlt_of_dec hc)
    try dsimp only at hf
    refine Run.exit _ rfl ?_
    refine Run.seq ?_
    refine Run.region ?_
    refine Ops.ex (Ex.move rfl) rfl rfl rfl ?_
    refine Ops.ex (Ex.assign rfl) rfl rfl rfl ?_
    refine Ops.nil ?_
    obtain rfl := Option.some.inj hf
    exact Run.retV [.pointer (some ⟨g6, 0, none⟩)] rfl ⟨rfl, trivial⟩ ⟨z37, g6, A38, c38, d38, rfl, hz41, f38, (St.up (St.up (St.up hst41 1 rfl) 2 rfl) 2 rfl)⟩
def go_sorted_Map_string_string_All_c1.b1 {σ : Type} (yield : (Str × Str) → σ → Option (Bool × σ)) (i2 : Nat) (a2 : sorteditemstringstring) : σ → (σ → Option σ) → Option σ :=
  fun ys23 nxb2 => (yield (a2.key_, a2.value_) ys23).bind fun y30 => if y30.1 then (nxb2 y30.2) else (some y30.2)
def go_sorted_Map_string_string_All_c1 {σ : Type} (yield : (Str × Str) → σ → Option (Bool × σ)) (s0 : σ) (q0 : sortedMapstringstring) : Option σ :=
  forL (go_sorted_Map_string_string_All_c1.b1 yield) (fun ys23 => some ys23) 0 q0.items_ s0
set_option maxRecDepth 100000 in
set_option maxHeartbeats 4000000 in
theorem go_sorted_Map_string_string_All_c1.walk {w0 w : World} {X : List Res} {z0 : Zp} {l : Nat} {σ : Type} {J : σ → Zp → List Res → Prop} {yield : (Str × Str) → σ → Option (Bool × σ)} {s0 : σ} {Hs0 : List Res} {q0 : sortedMapstringstring} {gq0o : Nat} {A1 : Option Addr} {c1 : Nat} {d1 : List Value} {gq0 : Nat} {r : σ} (hst : Ht w0 (frz z0 :: (blk gq0 [.pointer (some ⟨gq0o, 0, none⟩)] 101) :: (blk gq0o [.slice A1 q0.items_.length c1] 128) :: (orow 153 2 (.slice A1 q0.items_.length c1) q0.items_.length d1) :: (Hs0 ++ X)) w) (hY : YC Tryd.prog l w0 J (fun z a us_ => us_ = [vs a.1, vs a.2]) yield) (hJ0 : JH J s0 z0 Hs0) (f1 : Cs tsorteditemstringstring z0 d1 q0.items_) (hf : go_sorted_Map_string_string_All_c1 yield s0 q0 = some r) :
    Calls Tryd.prog 74 #[.func (.yield l) #[] #[], .pointer (some ⟨gq0, 0, none⟩)] w fun e w' => ∃ (z' : Zp) (Hs9001 : List Res), e = .returned (.tuple #[]) ∧ Le z0 z' ∧ JH J r z' Hs9001 ∧ Ht w0 (frz z' :: (blk gq0 [.pointer (some ⟨gq0o, 0, none⟩)] 101) :: (blk gq0o [.slice A1 q0.items_.length c1] 128) :: (orow 153 2 (.slice A1 q0.items_.length c1) q0.items_.length d1) :: (Hs9001 ++ X)) w' := by
  refine calls_np Tryd.func74 rfl rfl ?_
  have hle0 := Le.refl z0
  unfold go_sorted_Map_string_string_All_c1 at hf
  refine Run.seq ?_
  refine Run.region ?_
  refine Ops.load rfl Tryd.underlying101 rfl (hst.cell (i := 1) rfl rfl) rfl ?_
  refine Ops.ex (Ex.nilCheck rfl) rfl rfl rfl ?_
  refine Ops.ex (Ex.fieldAddr rfl Tryd.underlying128 rfl sz126) rfl rfl rfl ?_
  refine Ops.load rfl Tryd.underlying126 rfl (hst.cell (i := 2) rfl rfl) rfl ?_
  refine Ops.ex (Ex.len' rfl rfl rfl Tryd.underlying126) rfl rfl rfl ?_
  refine Ops.ex (Ex.move rfl) rfl rfl rfl ?_
  refine Ops.nil ?_
  refine Run.block ?_
  have hc2 := (own_slh f1 rfl (hst.get (i := 3) rfl)).cap
  refine Run.sub (e' := [(0, .func (.yield l) #[] #[]), (8, .slice A1 q0.items_.length c1), (9, vi (q0.items_.length : Int)), (10, vi ((0 : Nat) : Int))]) (subB_spec ⟨rfl, rfl, rfl, rfl, trivial⟩) ?_
  refine Run.loop (fun mb2 => (fun e' w' => ∃ (i2 : Nat) (ys23 : σ) (Hs23 : List Res) (z22 : Zp), mb2 = q0.items_.length - i2 ∧ i2 ≤ q0.items_.length ∧ forL (go_sorted_Map_string_string_All_c1.b1 yield) (fun ys23 => some ys23) i2 (q0.items_.drop i2) ys23 = some r ∧ e' = [(0, .func (.yield l) #[] #[]), (8, .slice A1 q0.items_.length c1), (9, vi (q0.items_.length : Int)), (10, vi (i2 : Int))] ∧ Le z0 z22 ∧ JH J ys23 z22 Hs23 ∧ Ht w0 (frz z22 :: (blk gq0 [.pointer (some ⟨gq0o, 0, none⟩)] 101) :: (blk gq0o [.slice A1 q0.items_.length c1] 128) :: (orow 153 2 (.slice A1 q0.items_.length c1) q0.items_.length d1) :: (Hs23 ++ X)) w')) q0.items_.length ⟨0, s0, Hs0, z0, rfl, Nat.zero_le _, hf, rfl, hle0, hJ0, hst⟩ ?_
  rintro _ e' w24 ⟨i2, ys23, Hs23, z22, rfl, hi2, hf, rfl, hz24, hJ23, hst24⟩
  replace f1 := f1.mono hz24
  refine Run.seq ?_
  refine Run.region ?_
  refine Ops.ex (Ex.lss rfl rfl) rfl rfl rfl ?_
  refine Ops.nil ?_
  refine Run.seq ?_
  refine Run.cond rfl (fun hc => ?_) (fun hc => ?_)
  · have hl2 := lt_of_dec hc
    obtain ⟨a2, nxb2, ha2, hnxb2, hf⟩ := forL_in hf hl2
    unfold go_sorted_Map_string_string_All_c1.b1 at hf
    try dsimp only at hf
    refine Run.skip ?_
    refine Run.seq ?_
    refine Run.block ?_
    refine Run.seq ?_
    refine Run.region ?_
    obtain ⟨g27, p27, o27, cs27, hA27, ho27, hr27, f27⟩ := own_elem f1 rfl (hst24.get (i := 3) rfl) (atI_nat ha2)
    obtain rfl := hr27
    refine Ops.ex (Ex.ixA hA27 ho27 (atI_nat ha2) rfl rfl rfl Tryd.underlying126 sz153) rfl rfl rfl ?_
    refine Ops.loadAgg [vs a2.key_, vs a2.value_] rfl Tryd.underlying153 rfl sz153 rfl (cells_of_zc rfl (f27 _ (hst24.get (i := 3) rfl))) rfl ?_
    refine Ops.allocF [vs [], vs []] hst24 zr153 rfl rfl (fun g28 w28 hst28 => ?_)
    refine Ops.store 1 [vs a2.key_, vs a2.value_] hst28 rfl rfl rfl rfl sz153 rfl (by simp [Value.oneCell']) (by simp) (fun w29 hst29 => ?_)
    refine Ops.nil ?_
    refine Run.seq ?_
    refine Run.region ?_
    refine Ops.ex (Ex.move rfl) rfl rfl rfl ?_
    refine Ops.ex (Ex.fieldAddr rfl Tryd.underlying153 rfl sz9) rfl rfl rfl ?_
    refine Ops.load rfl Tryd.underlying9 rfl (hst29.cell (i := 1) rfl rfl) rfl ?_
    refine Ops.ex (Ex.fieldAddr rfl Tryd.underlying153 rfl sz9) rfl rfl rfl ?_
    refine Ops.load rfl Tryd.underlying9 rfl (hst29.cell (i := 1) rfl rfl) rfl ?_
    obtain ⟨y30, hy30, hf⟩ := bnd hf
    refine Ops.yieldZ (a := (a2.key_, a2.value_)) [blk g28 [vs a2.key_, vs a2.value_] 153, blk gq0 [.pointer (some ⟨gq0o, 0, none⟩)] 101, blk gq0o [.slice A1 q0.items_.length c1] 128, orow 153 2 (.slice A1 q0.items_.length c1) q0.items_.length d1] hY hJ23 rfl hst29 hy30 rfl rfl rfl (fun w30 z30 Hs30 hz30 hJ30 hst30 => ?_)
    replace f1 := f1.mono hz30
    replace hz24 := hz24.trans hz30
    have hst30' : Ht w0 (frz z30 :: (blk g28 [vs a2.key_, vs a2.value_] 153) :: (blk gq0 [.pointer (some ⟨gq0o, 0, none⟩)] 101) :: (blk gq0o [.slice A1 q0.items_.length c1] 128) :: (orow 153 2 (.slice A1 q0.items_.length c1) q0.items_.length d1) :: (Hs30 ++ X)) _ := hst30
    refine Ops.ex (Ex.not rfl) rfl rfl rfl ?_
    refine Ops.nil ?_
    refine Run.cond rfl (fun hc => ?_) (fun hc => ?_)
    · replace hf := ifFb (bn_T hc) hf
      obtain rfl := Option.some.inj hf
      exact Run.retV [] rfl trivial ⟨z30, Hs30, rfl, hz24, hJ30, (St.forget hst30' 1)⟩
    · replace hf := ifTb (bn_F hc) hf
      refine Run.skip ?_
      refine Run.endBlk ?_
      refine Run.region ?_
      refine Ops.ex (Ex.add rfl rfl) rfl rfl rfl ?_
      refine Ops.ex (Ex.move rfl) rfl rfl rfl ?_
      refine Ops.nil ?_
      refine Run.re 10 rfl (congrArg vi (wr_succ' hl2 hc2)) ?_
      exact Run.sub (by exact subB_spec ⟨rfl, rfl, rfl, rfl, trivial⟩) (Run.stop ⟨q0.items_.length - (i2 + 1), by omega, i2 + 1, y30.2, Hs30, z30, rfl, by omega, (hnxb2 _).symm.trans hf, rfl, hz24, hJ30, (St.forget hst30' 1)⟩)
  · replace hf := forL_out hf (nlt_of_dec hc)
    try dsimp only at hf
    refine Run.exit _ rfl ?_
    obtain rfl := Option.some.inj hf
    exact Run.doneV [] rfl trivial ⟨z22, Hs23, rfl, hz24, hJ23, hst24⟩
def go_state_rows.z1 : (Str × Str) → (List apiPair) → Option (Bool × ((List apiPair) × Nat)) :=
  fun (a6_0, a6_1) l19 => (apB 40 l19 [(⟨a6_0, a6_1, false⟩ : apiPair)]).bind fun l27 => some (true, (l27, 0))
def go_state_rows (p0 : sortedMapstringstring) : Option (List apiPair) :=
  (go_sorted_Map_string_string_All p0).bind fun y3 => (go_sorted_Map_string_string_All_c1 (yw (go_state_rows.z1)) ([], 0) p0).bind fun (l19, yj6) => if yj6 = 0 then (some l19) else (none)
set_option maxRecDepth 100000 in
set_option maxHeartbeats 4000000 in
theorem go_state_rows.walk {w0 w : World} {X : List Res} {z0 : Zp} {p0 : sortedMapstringstring} {g0 : Nat} {A1 : Option Addr} {c1 : Nat} {d1 : List Value} {r : List apiPair} (hst : Ht w0 (frz z0 :: (blk g0 [.slice A1 p0.items_.length c1] 128) :: (orow 153 2 (.slice A1 p0.items_.length c1) p0.items_.length d1) :: X) w) (f1 : Cs tsorteditemstringstring z0 d1 p0.items_) (hf : go_state_rows p0 = some r) :
    Calls Tryd.prog 41 #[.pointer (some ⟨g0, 0, none⟩)] w fun e w' => ∃ (z' : Zp) (A9001 : Option Addr) (c9001 : Nat), e = .returned (.slice A9001 r.length c9001) ∧ Le z0 z' ∧ Sl tapiPair z' A9001 c9001 r ∧ Ht w0 (frz z' :: (blk g0 [.slice A1 p0.items_.length c1] 128) :: (orow 153 2 (.slice A1 p0.items_.length c1) p0.items_.length d1) :: X) w' := by
  refine calls_np Tryd.func41 rfl rfl ?_
  have hle0 := Le.refl z0
  unfold go_state_rows at hf
  refine Run.seq ?_
  refine Run.region ?_
  refine Ops.ex (Ex.assign rfl) rfl rfl rfl ?_
  refine Ops.nil ?_
  refine Run.seq ?_
  refine Run.region ?_
  refine Ops.allocF [.slice none 0 0] hst zr44 rfl rfl (fun g2 w2 hst2 => ?_)
  refine Ops.nil ?_
  refine Run.seq ?_
  refine Run.seq ?_
  refine Run.region ?_
  refine Ops.ex (Ex.move rfl) rfl rfl rfl ?_
  obtain ⟨y3, hy3, hf⟩ := bnd hf
  refine Ops.call rfl rfl Tryd.func57 (by kernel_rfl) (by kernel_rfl) rfl (go_sorted_Map_string_string_All.walk (p0 := p0) (hst := (St.up (St.up (St.up (St.up hst2 1 rfl) 3 rfl) 3 rfl) 3 rfl)) (f1 := f1) (hf := hy3)) ?_
  rintro _ w3 ⟨z3, g4, rfl, hz3, hst3⟩
  refine ⟨_, rfl, ?_⟩
  replace f1 := f1.mono hz3
  replace hle0 := hle0.trans hz3
  refine Ops.nil ?_
  refine Run.block ?_
  have hm5 := Le.refl z3
  have hst20 := hst3.row0 49 3
  have hst22 := hst3.row0 49 3
  obtain ⟨⟨ys6, yj6⟩, hy6, hf⟩ := bnd hf
  try dsimp only at hf
  refine Run.rangeZ (fun (s_ : List apiPair) (z18 : Zp) (Hs_ : List Res) => ∃ (l19 : List apiPair) (A19 : Option Addr) (c19 : Nat) (d19 : List Value), l19 = s_ ∧ Le z3 z18 ∧ Le z0 z18 ∧ Cs tapiPair z18 d19 l19 ∧ Hs_ = [orow 49 3 (.slice A19 l19.length c19) l19.length d19, blk g2 [.slice A19 l19.length c19] 44]) (fun z a us_ => us_ = [vs a.1, vs a.2]) (go_state_rows.z1) (fun _ => Code.skip) rfl rfl Tryd.func74 (by kernel_rfl) (by kernel_rfl) ?_ rfl (s0 := []) (s1 := ys6) (j1 := yj6) (Hs := [orow 49 3 (.slice none 0 0) 0 [], blk g2 [.slice none 0 0] 44]) (X := (blk g4 [.pointer (some ⟨g0, 0, none⟩)] 101 :: blk g0 [.slice A1 p0.items_.length c1] 128 :: orow 153 2 (.slice A1 p0.items_.length c1) p0.items_.length d1 :: X)) ⟨[], none, 0, [], rfl, hm5, hle0, (Cs.nil _ _), rfl⟩ (St.up (St.up (St.up (St.up (St.up (St.up hst22 3 rfl) 3 rfl) 4 rfl) 5 rfl) 5 rfl) 5 rfl) ?_ ?_ ?_ ?_
  · rintro _ _ _ rfl
    rfl
  · intro l_ J_ W_ Hs_ hY_ hJ_ hst_
    refine (go_sorted_Map_string_string_All_c1.walk (yield := yw (go_state_rows.z1)) (s0 := ([], 0)) (q0 := p0) (hst := St.swp (M := Hs_) (Hs := [blk g4 [.pointer (some ⟨g0, 0, none⟩)] 101, blk g0 [.slice A1 p0.items_.length c1] 128, orow 153 2 (.slice A1 p0.items_.length c1) p0.items_.length d1]) (X := X) hst_) (Hs0 := Hs_) (X := X) (hY := hY_) (hJ0 := hJ_) (f1 := f1) (hf := hy6)).mono ?_
    rintro _ W'_ ⟨z'_, Hs24, rfl, hl_, hJ24, hst'_⟩
    exact ⟨⟨_, rfl⟩, z'_, _, hl_, hJ24, St.swp (M := [blk g4 [.pointer (some ⟨g0, 0, none⟩)] 101, blk g0 [.slice A1 p0.items_.length c1] 128, orow 153 2 (.slice A1 p0.items_.length c1) p0.items_.length d1]) (Hs := Hs24) hst'_⟩
  · rintro s_ ar6 vs_ z1_ zr6 Hs_ Y_ l_ W_ rr_ ⟨l19, A19, c19, d19, rfl, hm6_0, hm6_1, f19, rfl⟩ hz12 hA_ hf hst6
    obtain ⟨a6_0, a6_1⟩ := ar6
    obtain rfl := hA_
    replace f19 := f19.mono hz12
    replace hm6_0 := hm6_0.trans hz12; replace hm6_1 := hm6_1.trans hz12
    unfold go_state_rows.z1 at hf
    try dsimp only at hf
    have hzz6 := Le.refl zr6
    replace hst6 : Ht w0 (frz zr6 :: (orow 49 3 (.slice A19 l19.length c19) l19.length d19) :: (blk g2 [.slice A19 l19.length c19] 44) :: Y_) _ := hst6
    refine Run.seq ?_
    refine Run.region ?_
    refine Ops.ex (Ex.assign rfl) rfl rfl rfl ?_
    refine Ops.nil ?_
    refine Run.region ?_
    refine Ops.ex (Ex.assign rfl) rfl rfl rfl ?_
    refine Ops.nil ?_
    refine Run.stop ⟨[orow 49 3 (.slice A19 l19.length c19) l19.length d19, blk g2 [.slice A19 l19.length c19] 44], hst6, fun Y6 W25 hst25 => ?_⟩
    replace hst25 : Ht w0 (frz zr6 :: (orow 49 3 (.slice A19 l19.length c19) l19.length d19) :: (blk g2 [.slice A19 l19.length c19] 44) :: Y6) _ := hst25
    refine Run.block ?_
    refine Run.region ?_
    refine Ops.load rfl Tryd.underlying44 rfl (hst25.cell (i := 2) rfl rfl) rfl ?_
    refine Ops.ex (Ex.move rfl) rfl rfl rfl ?_
    refine Ops.ex (Ex.move rfl) rfl rfl rfl ?_
    refine Ops.ex (Ex.build [vs a6_0, vs a6_1, vb false] rfl Tryd.underlying49 zr49 (pl49 Tryd.underlying49) (by kernel_rfl)) rfl rfl rfl ?_
    refine Ops.sliceF [vs a6_0, vs a6_1, vb false] hst25 rfl Tryd.underlying44 sz49 zr49 rfl rfl (by kernel_rfl) rfl (by simp [Value.oneCell']) rfl (fun A26 w26 hst26 => ?_)
    have f26 : Cs tapiPair zr6 [vs a6_0, vs a6_1, vb false] [(⟨a6_0, a6_1, false⟩ : apiPair)] := (Cs.cons (c := [vs a6_0, vs a6_1, vb false]) rfl (Cs.nil _ _))
    obtain ⟨l27, hy27, hf⟩ := bnd hf
    refine Ops.app 2 hst26 rfl f19 rfl (own_slh f26 rfl (hst26.get (i := 1) rfl)) rfl hy27 rfl rfl rfl rfl Tryd.underlying44 inf49 rfl (by decide) (by decide) rfl (fun A27 c27 d27 w27 f27 hst27 => ?_)
    refine Ops.store 3 [.slice A27 l27.length c27] hst27 rfl rfl rfl rfl sz44 rfl (by simp [Value.oneCell']) (by simp) (fun w28 hst28 => ?_)
    refine Ops.nil ?_
    refine Run.endBlk ?_
    obtain rfl := Option.some.inj hf
    exact Run.endZ rfl rfl (Le.refl _) ⟨l27, A27, c27, d27, rfl, hm6_0, hm6_1, f27, rfl⟩ (St.forget hst28 1)
  · rintro z1_ zd6 Hs_ D6 W_ h0 ⟨l19, A19, c19, d19, rfl, hm6_0, hm6_1, f19, rfl⟩ hz12 hzd hst6
    replace f19 := f19.mono hz12
    replace hm6_0 := hm6_0.trans hz12; replace hm6_1 := hm6_1.trans hz12
    replace f1 := f1.mono hzd
    have hst6' : Ht w0 (frz zd6 :: (orow 49 3 (.slice A19 l19.length c19) l19.length d19) :: (blk g2 [.slice A19 l19.length c19] 44) :: ob D6 (.deferred (some [])) :: (blk g4 [.pointer (some ⟨g0, 0, none⟩)] 101) :: (blk g0 [.slice A1 p0.items_.length c1] 128) :: (orow 153 2 (.slice A1 p0.items_.length c1) p0.items_.length d1) :: X) _ := hst6
    try dsimp only at hf
    replace hf := ifT h0 hf
    refine Run.endBlk ?_
    refine Run.seq ?_
    refine Run.region ?_
    refine Ops.load rfl Tryd.underlying44 rfl (hst6'.cell (i := 2) rfl rfl) rfl ?_
    refine Ops.ex (Ex.assign rfl) rfl rfl rfl ?_
    refine Ops.nil ?_
    obtain ⟨hD29, hst29⟩ := St.shutD hst6' 3 rfl
    have hst29 : Ht w0 (frz zd6 :: (orow 49 3 (.slice A19 l19.length c19) l19.length d19) :: (blk g2 [.slice A19 l19.length c19] 44) :: ob D6 (.deferred none) :: (blk g4 [.pointer (some ⟨g0, 0, none⟩)] 101) :: (blk g0 [.slice A1 p0.items_.length c1] 128) :: (orow 153 2 (.slice A1 p0.items_.length c1) p0.items_.length d1) :: X) _ := hst29
    obtain ⟨z30, hz30, f30, hst30⟩ := St.freeze (τ := tapiPair) (xs := l19) hst29 f19 rfl
    replace f1 := f1.mono hz30
    replace hm6_0 := hm6_0.trans hz30
    replace hm6_1 := hm6_1.trans hz30
    obtain rfl := Option.some.inj hf
    exact Run.retW [.slice A19 l19.length c19] (Shut.cons hD29 (Shut.nil _)) ⟨rfl, trivial⟩ ⟨z30, A19, c19, rfl, hm6_1, f30, (St.forget (St.forget (St.forget hst30 3) 2) 1)⟩
  · rintro z1_ zd6 Hs_ D6 W_ h0 ⟨l19, A19, c19, d19, rfl, hm6_0, hm6_1, f19, rfl⟩ hz12 hzd hst6
    replace f19 := f19.mono hz12
    replace hm6_0 := hm6_0.trans hz12; replace hm6_1 := hm6_1.trans hz12
    replace f1 := f1.mono hzd
    have hst6' : Ht w0 (frz zd6 :: (orow 49 3 (.slice A19 l19.length c19) l19.length d19) :: (blk g2 [.slice A19 l19.length c19] 44) :: ob D6 (.deferred (some [])) :: (blk g4 [.pointer (some ⟨g0, 0, none⟩)] 101) :: (blk g0 [.slice A1 p0.items_.length c1] 128) :: (orow 153 2 (.slice A1 p0.items_.length c1) p0.items_.length d1) :: X) _ := hst6
    try dsimp only at hf
    replace hf := ifF h0 hf
    cases hf
def go_state_do.j3 (p0 : sortedMapstringstring) (p1 : apiCmd) (y10 : Str × Bool) (b32 : Bool) : Option (apiReply × sortedMapstringstring) :=
  if b32 then (some ((⟨11, y10.1⟩ : apiReply), p0)) else (if p1.Op = 2 then ((go_sorted_Map_string_string_Del p0 p1.Key).bind fun y35 => some ((⟨0, y10.1⟩ : apiReply), y35.2)) else ((go_sorted_Map_string_string_Put p0 p1.Key p1.Value).bind fun y39 => some ((⟨0, y10.1⟩ : apiReply), y39.2)))
def go_state_do.j2 (p0 : sortedMapstringstring) (p1 : apiCmd) (y10 : Str × Bool) (b26 : Bool) : Option (apiReply × sortedMapstringstring) :=
  if b26 then (some ((⟨6, []⟩ : apiReply), p0)) else (if p1.Op = 3 then (go_state_do.j3 p0 p1 y10 (!(decide (y10.1 = p1.Old)))) else (go_state_do.j3 p0 p1 y10 false))
def go_state_do.j1 (p0 : sortedMapstringstring) (p1 : apiCmd) (y10 : Str × Bool) (b18 : Bool) : Option (apiReply × sortedMapstringstring) :=
  if b18 then (some ((⟨4, []⟩ : apiReply), p0)) else (if p1.Op = 1 then (go_state_do.j2 p0 p1 y10 false) else (go_state_do.j2 p0 p1 y10 (!y10.2)))
def go_state_do (p0 : sortedMapstringstring) (p1 : apiCmd) : Option (apiReply × sortedMapstringstring) :=
  (go_sorted_Map_string_string_Get p0 p1.Key).bind fun y10 => if p1.Op = 1 then (if y10.2 then (go_state_do.j1 p0 p1 y10 false) else ((go_sorted_Map_string_string_Len p0).bind fun y19 => go_state_do.j1 p0 p1 y10 (decide (64 ≤ y19)))) else (go_state_do.j1 p0 p1 y10 false)
set_option maxRecDepth 100000 in
set_option maxHeartbeats 4000000 in
theorem go_state_do.walk {w0 w : World} {X : List Res} {z0 : Zp} {p0 : sortedMapstringstring} {g0 : Nat} {A1 : Option Addr} {c1 : Nat} {d1 : List Value} {p1 : apiCmd} {r : apiReply × sortedMapstringstring} (hst : Ht w0 (frz z0 :: (blk g0 [.slice A1 p0.items_.length c1] 128) :: (orow 153 2 (.slice A1 p0.items_.length c1) p0.items_.length d1) :: X) w) (f1 : Cs tsorteditemstringstring z0 d1 p0.items_) (hf : go_state_do p0 p1 = some r) :
    Calls Tryd.prog 40 #[.pointer (some ⟨g0, 0, none⟩), .agg #[vi p1.Op, vi p1.Client, vi p1.Seq, vs p1.Key, vs p1.Value, vs p1.Old]] w fun e w' => ∃ (z' : Zp) (A9003 : Option Addr) (c9003 : Nat) (d9003 : List Value), e = .returned (.agg #[vi r.1.Err, vs r.1.Value]) ∧ Le z0 z' ∧ Cs tsorteditemstringstring z' d9003 r.2.items_ ∧ Ht w0 (frz z' :: (blk g0 [.slice A9003 r.2.items_.length c9003] 128) :: (orow 153 2 (.slice A9003 r.2.items_.length c9003) r.2.items_.length d9003) :: X) w' := by
  refine calls_np Tryd.func40 rfl rfl ?_
  have hle0 := Le.refl z0
  unfold go_state_do at hf
  refine Run.seq ?_
  refine Run.region ?_
  refine Ops.boxF [vi p1.Op, vi p1.Client, vi p1.Seq, vs p1.Key, vs p1.Value, vs p1.Old] hst rfl rfl rfl (fun g8 w8 hst8 => ?_)
  refine Ops.allocF [vi 0, vs []] hst8 zr84 rfl rfl (fun g9 w9 hst9 => ?_)
  refine Ops.nil ?_
  refine Run.seq ?_
  refine Run.region ?_
  refine Ops.ex (Ex.move rfl) rfl rfl rfl ?_
  refine Ops.ex (Ex.fieldAddr rfl Tryd.underlying79 rfl sz9) rfl rfl rfl ?_
  refine Ops.load rfl Tryd.underlying9 rfl (hst9.cell (i := 2) rfl rfl) rfl ?_
  obtain ⟨y10, hy10, hf⟩ := bnd hf
  refine Ops.call rfl rfl Tryd.func54 (by kernel_rfl) (by kernel_rfl) rfl (go_sorted_Map_string_string_Get.walk (p0 := p0) (p1 := p1.Key) (hst := (St.up (St.up (St.up (St.up (St.up hst9 2 rfl) 2 rfl) 4 rfl) 4 rfl) 4 rfl)) (f1 := f1) (hf := hy10)) ?_
  rintro _ w10 ⟨z10, rfl, hz10, hst10⟩
  refine ⟨_, rfl, ?_⟩
  replace f1 := f1.mono hz10
  replace hle0 := hle0.trans hz10
  refine Ops.ex (Ex.move rfl) rfl rfl rfl ?_
  refine Ops.ex (Ex.extract rfl rfl) rfl rfl rfl ?_
  refine Ops.ex (Ex.extract rfl rfl) rfl rfl rfl ?_
  refine Ops.ex (Ex.assign rfl) rfl rfl rfl ?_
  refine Ops.ex (Ex.assign rfl) rfl rfl rfl ?_
  refine Ops.nil ?_
  refine Run.seq ?_
  refine Run.block ?_
  refine Run.seq ?_
  have hm16 := Le.refl z10
  apply Run.jn (fun e' w' => ∃ (b18 : Bool) (z17 : Zp), go_state_do.j1 p0 p1 y10 b18 = some r ∧ e' = [(0, .pointer (some ⟨g0, 0, none⟩)), (3, .pointer (some ⟨g8, 0, none⟩)), (4, .pointer (some ⟨g9, 0, none⟩)), (5, vs y10.1), (6, vb y10.2), (20, vb b18)] ∧ Le z10 z17 ∧ Le z0 z17 ∧ Ht w0 (frz z17 :: (blk g0 [.slice A1 p0.items_.length c1] 128) :: (orow 153 2 (.slice A1 p0.items_.length c1) p0.items_.length d1) :: (blk g9 [vi 0, vs []] 84) :: (blk g8 [vi p1.Op, vi p1.Client, vi p1.Seq, vs p1.Key, vs p1.Value, vs p1.Old] 79) :: X) w')
  · intro hj13
    refine Run.region ?_
    refine Ops.ex (Ex.fieldAddr rfl Tryd.underlying79 rfl sz77) rfl rfl rfl ?_
    refine Ops.load rfl Tryd.underlying77 rfl (hst10.cell (i := 4) rfl rfl) rfl ?_
    refine Ops.ex (Ex.eqlI rfl rfl) rfl rfl rfl ?_
    refine Ops.ex (Ex.move rfl) rfl rfl rfl ?_
    refine Ops.case 24 rfl (fun hc => ?_) (fun hc => ?_)
    · replace hf := ifT (dec_T hc) hf
      refine Ops.on rfl ?_
      refine Ops.ex (Ex.move rfl) rfl rfl rfl ?_
      refine Ops.on rfl ?_
      refine Ops.ex (Ex.not rfl) rfl rfl rfl ?_
      refine Ops.ex (Ex.pickT rfl rfl) rfl rfl rfl ?_
      refine Ops.ex (Ex.move rfl) rfl rfl rfl ?_
      refine Ops.case 28 rfl (fun hc => ?_) (fun hc => ?_)
      · replace hf := ifFb (bn_T hc) hf
        refine Ops.on rfl ?_
        refine Ops.ex (Ex.move rfl) rfl rfl rfl ?_
        refine Ops.on rfl ?_
        obtain ⟨y19, hy19, hf⟩ := bnd hf
        refine Ops.call rfl rfl Tryd.func55 (by kernel_rfl) (by kernel_rfl) rfl (go_sorted_Map_string_string_Len.walk (p0 := p0) (hst := hst10) (f1 := f1) (hf := hy19)) ?_
        rintro _ w19 ⟨z19, rfl, hz19, hst19⟩
        refine ⟨_, rfl, ?_⟩
        replace f1 := f1.mono hz19
        replace hle0 := hle0.trans hz19
        replace hm16 := hm16.trans hz19
        refine Ops.on rfl ?_
        refine Ops.ex (Ex.geq rfl rfl) rfl rfl rfl ?_
        refine Ops.ex (Ex.pickT rfl rfl) rfl rfl rfl ?_
        refine Ops.ex (Ex.assign rfl) rfl rfl rfl ?_
        refine Ops.nil ?_
        exact Run.sub (by exact subB_spec ⟨rfl, rfl, rfl, rfl, rfl, rfl, trivial⟩) (hj13 _ _ ⟨decide (64 ≤ y19), z19, hf, rfl, hm16, hle0, hst19⟩)
      · replace hf := ifTb (bn_F hc) hf
        refine Ops.off rfl rfl ?_
        refine Ops.off rfl rfl ?_
        refine Ops.off rfl rfl ?_
        refine Ops.ex (Ex.pickF rfl rfl) rfl rfl rfl ?_
        refine Ops.ex (Ex.assign rfl) rfl rfl rfl ?_
        refine Ops.nil ?_
        exact Run.sub (by exact subB_spec ⟨rfl, rfl, rfl, rfl, rfl, rfl, trivial⟩) (hj13 _ _ ⟨false, z10, hf, rfl, hm16, hle0, hst10⟩)
    · replace hf := ifF (dec_F hc) hf
      refine Ops.off rfl rfl ?_
      refine Ops.off rfl rfl ?_
      refine Ops.ex (Ex.pickF rfl rfl) rfl rfl rfl ?_
      refine Ops.ex (Ex.move rfl) rfl rfl rfl ?_
      refine Ops.off rfl rfl ?_
      refine Ops.off rfl rfl ?_
      refine Ops.off rfl rfl ?_
      refine Ops.ex (Ex.pickF rfl rfl) rfl rfl rfl ?_
      refine Ops.ex (Ex.assign rfl) rfl rfl rfl ?_
      refine Ops.nil ?_
      exact Run.sub (by exact subB_spec ⟨rfl, rfl, rfl, rfl, rfl, rfl, trivial⟩) (hj13 _ _ ⟨false, z10, hf, rfl, hm16, hle0, hst10⟩)
  · rintro e' w21 ⟨b18, z17, hf, rfl, hz21, hy21_0, hst21⟩
    replace f1 := f1.mono hz21
    unfold go_state_do.j1 at hf
    refine Run.cond rfl (fun hc => ?_) (fun hc => ?_)
    · replace hf := ifTb hc hf
      refine Run.seq ?_
      refine Run.region ?_
      refine Ops.ex (Ex.build [vi 4, vs []] rfl Tryd.underlying84 zr84 (pl84 Tryd.underlying84) (by kernel_rfl)) rfl rfl rfl ?_
      refine Ops.store 3 [vi 4, vs []] hst21 rfl rfl rfl rfl sz84 rfl (by simp [Value.oneCell']) (by simp) (fun w22 hst22 => ?_)
      refine Ops.nil ?_
      obtain rfl := Option.some.inj hf
      exact Run.retV [.agg #[vi 4, vs []]] rfl ⟨⟨_, rfl, run_loadN _ Tryd.underlying84 rfl sz84 rfl (hst22.cells (i := 3) rfl 0 2)⟩, trivial⟩ ⟨z17, A1, c1, d1, rfl, hy21_0, f1, (St.forget (St.forget hst22 4) 3)⟩
    · replace hf := ifFb hc hf
      refine Run.seq ?_
      have hm24 := Le.refl z17
      apply Run.jn (fun e' w' => ∃ (b26 : Bool) (z25 : Zp), go_state_do.j2 p0 p1 y10 b26 = some r ∧ e' = [(0, .pointer (some ⟨g0, 0, none⟩)), (3, .pointer (some ⟨g8, 0, none⟩)), (4, .pointer (some ⟨g9, 0, none⟩)), (5, vs y10.1), (34, vb b26)] ∧ Le z17 z25 ∧ Le z0 z25 ∧ Le z10 z25 ∧ Ht w0 (frz z25 :: (blk g0 [.slice A1 p0.items_.length c1] 128) :: (orow 153 2 (.slice A1 p0.items_.length c1) p0.items_.length d1) :: (blk g9 [vi 0, vs []] 84) :: (blk g8 [vi p1.Op, vi p1.Client, vi p1.Seq, vs p1.Key, vs p1.Value, vs p1.Old] 79) :: X) w')
      · intro hj23
        refine Run.region ?_
        refine Ops.ex (Ex.fieldAddr rfl Tryd.underlying79 rfl sz77) rfl rfl rfl ?_
        refine Ops.load rfl Tryd.underlying77 rfl (hst21.cell (i := 4) rfl rfl) rfl ?_
        refine Ops.ex (Ex.neqI rfl rfl) rfl rfl rfl ?_
        refine Ops.ex (Ex.move rfl) rfl rfl rfl ?_
        refine Ops.case 38 rfl (fun hc => ?_) (fun hc => ?_)
        · replace hf := ifF (neq_T hc) hf
          refine Ops.on rfl ?_
          refine Ops.ex (Ex.move rfl) rfl rfl rfl ?_
          refine Ops.on rfl ?_
          refine Ops.ex (Ex.not rfl) rfl rfl rfl ?_
          refine Ops.ex (Ex.pickT rfl rfl) rfl rfl rfl ?_
          refine Ops.ex (Ex.assign rfl) rfl rfl rfl ?_
          refine Ops.nil ?_
          exact Run.sub (by exact subB_spec ⟨rfl, rfl, rfl, rfl, rfl, trivial⟩) (hj23 _ _ ⟨!y10.2, z17, hf, rfl, hm24, hy21_0, hz21, hst21⟩)
        · replace hf := ifT (neq_F hc) hf
          refine Ops.off rfl rfl ?_
          refine Ops.off rfl rfl ?_
          refine Ops.ex (Ex.pickF rfl rfl) rfl rfl rfl ?_
          refine Ops.ex (Ex.assign rfl) rfl rfl rfl ?_
          refine Ops.nil ?_
          exact Run.sub (by exact subB_spec ⟨rfl, rfl, rfl, rfl, rfl, trivial⟩) (hj23 _ _ ⟨false, z17, hf, rfl, hm24, hy21_0, hz21, hst21⟩)
      · rintro e' w27 ⟨b26, z25, hf, rfl, hz27, hy27_0, hy27_1, hst27⟩
        replace f1 := f1.mono hz27
        unfold go_state_do.j2 at hf
        refine Run.cond rfl (fun hc => ?_) (fun hc => ?_)
        · replace hf := ifTb hc hf
          refine Run.seq ?_
          refine Run.region ?_
          refine Ops.ex (Ex.build [vi 6, vs []] rfl Tryd.underlying84 zr84 (pl84 Tryd.underlying84) (by kernel_rfl)) rfl rfl rfl ?_
          refine Ops.store 3 [vi 6, vs []] hst27 rfl rfl rfl rfl sz84 rfl (by simp [Value.oneCell']) (by simp) (fun w28 hst28 => ?_)
          refine Ops.nil ?_
          obtain rfl := Option.some.inj hf
          exact Run.retV [.agg #[vi 6, vs []]] rfl ⟨⟨_, rfl, run_loadN _ Tryd.underlying84 rfl sz84 rfl (hst28.cells (i := 3) rfl 0 2)⟩, trivial⟩ ⟨z25, A1, c1, d1, rfl, hy27_0, f1, (St.forget (St.forget hst28 4) 3)⟩
        · replace hf := ifFb hc hf
          refine Run.seq ?_
          have hm30 := Le.refl z25
          apply Run.jn (fun e' w' => ∃ (b32 : Bool) (z31 : Zp), go_state_do.j3 p0 p1 y10 b32 = some r ∧ e' = [(0, .pointer (some ⟨g0, 0, none⟩)), (3, .pointer (some ⟨g8, 0, none⟩)), (4, .pointer (some ⟨g9, 0, none⟩)), (5, vs y10.1), (43, vb b32)] ∧ Le z25 z31 ∧ Le z0 z31 ∧ Le z10 z31 ∧ Le z17 z31 ∧ Ht w0 (frz z31 :: (blk g0 [.slice A1 p0.items_.length c1] 128) :: (orow 153 2 (.slice A1 p0.items_.length c1) p0.items_.length d1) :: (blk g9 [vi 0, vs []] 84) :: (blk g8 [vi p1.Op, vi p1.Client, vi p1.Seq, vs p1.Key, vs p1.Value, vs p1.Old] 79) :: X) w')
          · intro hj29
            refine Run.region ?_
            refine Ops.ex (Ex.fieldAddr rfl Tryd.underlying79 rfl sz77) rfl rfl rfl ?_
            refine Ops.load rfl Tryd.underlying77 rfl (hst27.cell (i := 4) rfl rfl) rfl ?_
            refine Ops.ex (Ex.eqlI rfl rfl) rfl rfl rfl ?_
            refine Ops.ex (Ex.move rfl) rfl rfl rfl ?_
            refine Ops.case 47 rfl (fun hc => ?_) (fun hc => ?_)
            · replace hf := ifT (dec_T hc) hf
              refine Ops.on rfl ?_
              refine Ops.ex (Ex.move rfl) rfl rfl rfl ?_
              refine Ops.on rfl ?_
              refine Ops.ex (Ex.fieldAddr rfl Tryd.underlying79 rfl sz9) rfl rfl rfl ?_
              refine Ops.on rfl ?_
              refine Ops.load rfl Tryd.underlying9 rfl (hst27.cell (i := 4) rfl rfl) rfl ?_
              refine Ops.on rfl ?_
              refine Ops.ex (Ex.neqT rfl rfl) rfl rfl rfl ?_
              refine Ops.ex (Ex.pickT rfl rfl) rfl rfl rfl ?_
              refine Ops.ex (Ex.assign rfl) rfl rfl rfl ?_
              refine Ops.nil ?_
              exact Run.sub (by exact subB_spec ⟨rfl, rfl, rfl, rfl, rfl, trivial⟩) (hj29 _ _ ⟨!(decide (y10.1 = p1.Old)), z25, hf, rfl, hm30, hy27_0, hy27_1, hz27, hst27⟩)
            · replace hf := ifF (dec_F hc) hf
              refine Ops.off rfl rfl ?_
              refine Ops.off rfl rfl ?_
              refine Ops.off rfl rfl ?_
              refine Ops.off rfl rfl ?_
              refine Ops.ex (Ex.pickF rfl rfl) rfl rfl rfl ?_
              refine Ops.ex (Ex.assign rfl) rfl rfl rfl ?_
              refine Ops.nil ?_
              exact Run.sub (by exact subB_spec ⟨rfl, rfl, rfl, rfl, rfl, trivial⟩) (hj29 _ _ ⟨false, z25, hf, rfl, hm30, hy27_0, hy27_1, hz27, hst27⟩)
          · rintro e' w33 ⟨b32, z31, hf, rfl, hz33, hy33_0, hy33_1, hy33_2, hst33⟩
            replace f1 := f1.mono hz33
            unfold go_state_do.j3 at hf
            refine Run.cond rfl (fun hc => ?_) (fun hc => ?_)
            · replace hf := ifTb hc hf
              refine Run.seq ?_
              refine Run.region ?_
              refine Ops.ex (Ex.move rfl) rfl rfl rfl ?_
              refine Ops.ex (Ex.build [vi 11, vs y10.1] rfl Tryd.underlying84 zr84 (pl84 Tryd.underlying84) (by kernel_rfl)) rfl rfl rfl ?_
              refine Ops.store 3 [vi 11, vs y10.1] hst33 rfl rfl rfl rfl sz84 rfl (by simp [Value.oneCell']) (by simp) (fun w34 hst34 => ?_)
              refine Ops.nil ?_
              obtain rfl := Option.some.inj hf
              exact Run.retV [.agg #[vi 11, vs y10.1]] rfl ⟨⟨_, rfl, run_loadN _ Tryd.underlying84 rfl sz84 rfl (hst34.cells (i := 3) rfl 0 2)⟩, trivial⟩ ⟨z31, A1, c1, d1, rfl, hy33_0, f1, (St.forget (St.forget hst34 4) 3)⟩
            · replace hf := ifFb hc hf
              refine Run.seq ?_
              refine Run.region ?_
              refine Ops.ex (Ex.fieldAddr rfl Tryd.underlying79 rfl sz77) rfl rfl rfl ?_
              refine Ops.load rfl Tryd.underlying77 rfl (hst33.cell (i := 4) rfl rfl) rfl ?_
              refine Ops.ex (Ex.eqlI rfl rfl) rfl rfl rfl ?_
              refine Ops.ex (Ex.assign rfl) rfl rfl rfl ?_
              refine Ops.nil ?_
              refine Run.cond rfl (fun hc => ?_) (fun hc => ?_)
              · replace hf := ifT (dec_T hc) hf
                refine Run.region ?_
                refine Ops.ex (Ex.move rfl) rfl rfl rfl ?_
                refine Ops.ex (Ex.fieldAddr rfl Tryd.underlying79 rfl sz9) rfl rfl rfl ?_
                refine Ops.load rfl Tryd.underlying9 rfl (hst33.cell (i := 4) rfl rfl) rfl ?_
                obtain ⟨y35, hy35, hf⟩ := bnd hf
                refine Ops.call rfl rfl Tryd.func56 (by kernel_rfl) (by kernel_rfl) rfl (go_sorted_Map_string_string_Del.walk (p0 := p0) (p1 := p1.Key) (hst := hst33) (f1 := f1) (hf := hy35)) ?_
                rintro _ w35 ⟨z35, A37, c37, d37, rfl, hz35, f37, hst35⟩
                refine ⟨_, rfl, ?_⟩
                replace hy33_0 := hy33_0.trans hz35
                replace hy33_1 := hy33_1.trans hz35
                replace hy33_2 := hy33_2.trans hz35
                replace hz33 := hz33.trans hz35
                refine Ops.nil ?_
                refine Run.endBlk ?_
                refine Run.seq ?_
                refine Run.region ?_
                refine Ops.ex (Ex.move rfl) rfl rfl rfl ?_
                refine Ops.ex (Ex.build [vi 0, vs y10.1] rfl Tryd.underlying84 zr84 (pl84 Tryd.underlying84) (by kernel_rfl)) rfl rfl rfl ?_
                refine Ops.store 3 [vi 0, vs y10.1] hst35 rfl rfl rfl rfl sz84 rfl (by simp [Value.oneCell']) (by simp) (fun w38 hst38 => ?_)
                refine Ops.nil ?_
                obtain rfl := Option.some.inj hf
                exact Run.retV [.agg #[vi 0, vs y10.1]] rfl ⟨⟨_, rfl, run_loadN _ Tryd.underlying84 rfl sz84 rfl (hst38.cells (i := 3) rfl 0 2)⟩, trivial⟩ ⟨z35, A37, c37, d37, rfl, hy33_0, f37, (St.forget (St.forget hst38 4) 3)⟩
              · replace hf := ifF (dec_F hc) hf
                refine Run.region ?_
                refine Ops.ex (Ex.move rfl) rfl rfl rfl ?_
                refine Ops.ex (Ex.fieldAddr rfl Tryd.underlying79 rfl sz9) rfl rfl rfl ?_
                refine Ops.load rfl Tryd.underlying9 rfl (hst33.cell (i := 4) rfl rfl) rfl ?_
                refine Ops.ex (Ex.fieldAddr rfl Tryd.underlying79 rfl sz9) rfl rfl rfl ?_
                refine Ops.load rfl Tryd.underlying9 rfl (hst33.cell (i := 4) rfl rfl) rfl ?_
                obtain ⟨y39, hy39, hf⟩ := bnd hf
                refine Ops.call rfl rfl Tryd.func53 (by kernel_rfl) (by kernel_rfl) rfl (go_sorted_Map_string_string_Put.walk (p0 := p0) (p1 := p1.Key) (p2 := p1.Value) (hst := hst33) (f1 := f1) (hf := hy39)) ?_
                rintro _ w39 ⟨z39, A41, c41, d41, rfl, hz39, f41, hst39⟩
                refine ⟨_, rfl, ?_⟩
                replace hy33_0 := hy33_0.trans hz39
                replace hy33_1 := hy33_1.trans hz39
                replace hy33_2 := hy33_2.trans hz39
                replace hz33 := hz33.trans hz39
                refine Ops.nil ?_
                refine Run.endBlk ?_
                refine Run.seq ?_
                refine Run.region ?_
                refine Ops.ex (Ex.move rfl) rfl rfl rfl ?_
                refine Ops.ex (Ex.build [vi 0, vs y10.1] rfl Tryd.underlying84 zr84 (pl84 Tryd.underlying84) (by kernel_rfl)) rfl rfl rfl ?_
                refine Ops.store 3 [vi 0, vs y10.1] hst39 rfl rfl rfl rfl sz84 rfl (by simp [Value.oneCell']) (by simp) (fun w42 hst42 => ?_)
                refine Ops.nil ?_
                obtain rfl := Option.some.inj hf
                exact Run.retV [.agg #[vi 0, vs y10.1]] rfl ⟨⟨_, rfl, run_loadN _ Tryd.underlying84 rfl sz84 rfl (hst42.cells (i := 3) rfl 0 2)⟩, trivial⟩ ⟨z39, A41, c41, d41, rfl, hy33_0, f41, (St.forget (St.forget hst42 4) 3)⟩
def go_law20_plain.b1 (p0 : Str) : Int → (Int → Option Bool) → Option Bool :=
  fun x19 nxb2 => if x19 < (p0.length : Int) then ((atI p0 x19).bind fun y21 => if y21 < 32 then (some false) else ((atI p0 x19).bind fun y22 => if 126 < y22 then (some false) else ((atI p0 x19).bind fun y23 => if y23 = 34 then (some false) else ((atI p0 x19).bind fun y24 => if y24 = 92 then (some false) else (nxb2 (wr (x19 + 1))))))) else (some true)
def go_law20_plain (p0 : Str) : Option Bool :=
  loopF (go_law20_plain.b1 p0) fuel 0
set_option maxRecDepth 100000 in
set_option maxHeartbeats 4000000 in
theorem go_law20_plain.walk {w0 w : World} {X : List Res} {z0 : Zp} {p0 : Str} {r : Bool} (hst : Ht w0 (frz z0 :: X) w) (hf : go_law20_plain p0 = some r) :
    Calls Tryd.prog 12 #[vs p0] w fun e w' => ∃ (z' : Zp), e = .returned (vb r) ∧ Le z0 z' ∧ Ht w0 (frz z' :: X) w' := by
  refine calls_np Tryd.func12 rfl rfl ?_
  have hle0 := Le.refl z0
  unfold go_law20_plain at hf
  refine Run.seq ?_
  refine Run.region ?_
  refine Ops.ex (Ex.assign rfl) rfl rfl rfl ?_
  refine Ops.nil ?_
  refine Run.seq ?_
  refine Run.seq ?_
  refine Run.region ?_
  refine Ops.ex (Ex.assign rfl) rfl rfl rfl ?_
  refine Ops.nil ?_
  refine Run.block ?_
  refine Run.sub (e' := [(0, vs p0), (3, vi 0)]) (subB_spec ⟨rfl, rfl, trivial⟩) ?_
  refine Run.loop (fun mb2 => (fun e' w' => ∃ (x19 : Int) (z18 : Zp), loopF (go_law20_plain.b1 p0) mb2 x19 = some r ∧ e' = [(0, vs p0), (3, vi x19)] ∧ Le z0 z18 ∧ Ht w0 (frz z18 :: X) w')) fuel ⟨0, z0, hf, rfl, hle0, hst⟩ ?_
  rintro mb2 e' w20 ⟨x19, z18, hf, rfl, hz20, hst20⟩
  obtain ⟨mb2', nxb2, rfl, hnxb2, hf⟩ := loopF_in hf
  unfold go_law20_plain.b1 at hf
  try dsimp only at hf
  refine Run.seq ?_
  refine Run.seq ?_
  refine Run.region ?_
  refine Ops.ex (Ex.move rfl) rfl rfl rfl ?_
  refine Ops.ex (Ex.move rfl) rfl rfl rfl ?_
  refine Ops.ex (Ex.lenT rfl rfl rfl Tryd.underlying9) rfl rfl rfl ?_
  refine Ops.ex (Ex.lss rfl rfl) rfl rfl rfl ?_
  refine Ops.nil ?_
  refine Run.cond rfl (fun hc => ?_) (fun hc => ?_)
  · replace hf := ifT (dec_T hc) hf
    refine Run.skip ?_
    refine Run.seq ?_
    refine Run.block ?_
    refine Run.seq ?_
    refine Run.region ?_
    refine Ops.ex (Ex.move rfl) rfl rfl rfl ?_
    refine Ops.ex (Ex.move rfl) rfl rfl rfl ?_
    obtain ⟨y21, hy21, hf⟩ := bnd hf
    refine Ops.ex (Ex.ixT hy21 rfl rfl Tryd.underlying9) rfl rfl rfl ?_
    refine Ops.ex (Ex.lss8 (a := y21) (b := 32) rfl rfl) rfl rfl rfl ?_
    refine Ops.ex (Ex.move rfl) rfl rfl rfl ?_
    refine Ops.case 14 rfl (fun hc => ?_) (fun hc => ?_)
    · replace hf := ifT (dec_T hc) hf
      refine Ops.off rfl rfl ?_
      refine Ops.off rfl rfl ?_
      refine Ops.off rfl rfl ?_
      refine Ops.off rfl rfl ?_
      refine Ops.ex (Ex.pickT rfl rfl) rfl rfl rfl ?_
      refine Ops.ex (Ex.move rfl) rfl rfl rfl ?_
      refine Ops.off rfl rfl ?_
      refine Ops.off rfl rfl ?_
      refine Ops.off rfl rfl ?_
      refine Ops.off rfl rfl ?_
      refine Ops.ex (Ex.pickT rfl rfl) rfl rfl rfl ?_
      refine Ops.ex (Ex.move rfl) rfl rfl rfl ?_
      refine Ops.off rfl rfl ?_
      refine Ops.off rfl rfl ?_
      refine Ops.off rfl rfl ?_
      refine Ops.off rfl rfl ?_
      refine Ops.ex (Ex.pickT rfl rfl) rfl rfl rfl ?_
      refine Ops.nil ?_
      refine Run.condT rfl rfl ?_
      refine Run.seq ?_
      refine Run.region ?_
      refine Ops.ex (Ex.assign rfl) rfl rfl rfl ?_
      refine Ops.nil ?_
      obtain rfl := Option.some.inj hf
      exact Run.retV [vb false] rfl ⟨rfl, trivial⟩ ⟨z18, rfl, hz20, hst20⟩
    · replace hf := ifF (dec_F hc) hf
      refine Ops.on rfl ?_
      refine Ops.ex (Ex.move rfl) rfl rfl rfl ?_
      refine Ops.on rfl ?_
      refine Ops.ex (Ex.move rfl) rfl rfl rfl ?_
      refine Ops.on rfl ?_
      obtain ⟨y22, hy22, hf⟩ := bnd hf
      refine Ops.ex (Ex.ixT hy22 rfl rfl Tryd.underlying9) rfl rfl rfl ?_
      refine Ops.on rfl ?_
      refine Ops.ex (Ex.gtr8 (a := y22) (b := 126) rfl rfl) rfl rfl rfl ?_
      refine Ops.ex (Ex.pickF rfl rfl) rfl rfl rfl ?_
      refine Ops.ex (Ex.move rfl) rfl rfl rfl ?_
      refine Ops.case 20 rfl (fun hc => ?_) (fun hc => ?_)
      · replace hf := ifT (dec_T hc) hf
        refine Ops.off rfl rfl ?_
        refine Ops.off rfl rfl ?_
        refine Ops.off rfl rfl ?_
        refine Ops.off rfl rfl ?_
        refine Ops.ex (Ex.pickT rfl rfl) rfl rfl rfl ?_
        refine Ops.ex (Ex.move rfl) rfl rfl rfl ?_
        refine Ops.off rfl rfl ?_
        refine Ops.off rfl rfl ?_
        refine Ops.off rfl rfl ?_
        refine Ops.off rfl rfl ?_
        refine Ops.ex (Ex.pickT rfl rfl) rfl rfl rfl ?_
        refine Ops.nil ?_
        refine Run.condT rfl rfl ?_
        refine Run.seq ?_
        refine Run.region ?_
        refine Ops.ex (Ex.assign rfl) rfl rfl rfl ?_
        refine Ops.nil ?_
        obtain rfl := Option.some.inj hf
        exact Run.retV [vb false] rfl ⟨rfl, trivial⟩ ⟨z18, rfl, hz20, hst20⟩
      · replace hf := ifF (dec_F hc) hf
        refine Ops.on rfl ?_
        refine Ops.ex (Ex.move rfl) rfl rfl rfl ?_
        refine Ops.on rfl ?_
        refine Ops.ex (Ex.move rfl) rfl rfl rfl ?_
        refine Ops.on rfl ?_
        obtain ⟨y23, hy23, hf⟩ := bnd hf
        refine Ops.ex (Ex.ixT hy23 rfl rfl Tryd.underlying9) rfl rfl rfl ?_
        refine Ops.on rfl ?_
        refine Ops.ex (Ex.eql8 (a := y23) (b := 34) rfl rfl) rfl rfl rfl ?_
        refine Ops.ex (Ex.pickF rfl rfl) rfl rfl rfl ?_
        refine Ops.ex (Ex.move rfl) rfl rfl rfl ?_
        refine Ops.case 26 rfl (fun hc => ?_) (fun hc => ?_)
        · replace hf := ifT (dec_T hc) hf
          refine Ops.off rfl rfl ?_
          refine Ops.off rfl rfl ?_
          refine Ops.off rfl rfl ?_
          refine Ops.off rfl rfl ?_
          refine Ops.ex (Ex.pickT rfl rfl) rfl rfl rfl ?_
          refine Ops.nil ?_
          refine Run.condT rfl rfl ?_
          refine Run.seq ?_
          refine Run.region ?_
          refine Ops.ex (Ex.assign rfl) rfl rfl rfl ?_
          refine Ops.nil ?_
          obtain rfl := Option.some.inj hf
          exact Run.retV [vb false] rfl ⟨rfl, trivial⟩ ⟨z18, rfl, hz20, hst20⟩
        · replace hf := ifF (dec_F hc) hf
          refine Ops.on rfl ?_
          refine Ops.ex (Ex.move rfl) rfl rfl rfl ?_
          refine Ops.on rfl ?_
          refine Ops.ex (Ex.move rfl) rfl rfl rfl ?_
          refine Ops.on rfl ?_
          obtain ⟨y24, hy24, hf⟩ := bnd hf
          refine Ops.ex (Ex.ixT hy24 rfl rfl Tryd.underlying9) rfl rfl rfl ?_
          refine Ops.on rfl ?_
          refine Ops.ex (Ex.eql8 (a := y24) (b := 92) rfl rfl) rfl rfl rfl ?_
          refine Ops.ex (Ex.pickF rfl rfl) rfl rfl rfl ?_
          refine Ops.nil ?_
          refine Run.cond rfl (fun hc => ?_) (fun hc => ?_)
          · replace hf := ifT (dec_T hc) hf
            refine Run.seq ?_
            refine Run.region ?_
            refine Ops.ex (Ex.assign rfl) rfl rfl rfl ?_
            refine Ops.nil ?_
            obtain rfl := Option.some.inj hf
            exact Run.retV [vb false] rfl ⟨rfl, trivial⟩ ⟨z18, rfl, hz20, hst20⟩
          · replace hf := ifF (dec_F hc) hf
            refine Run.skip ?_
            refine Run.endBlk ?_
            refine Run.region ?_
            refine Ops.ex (Ex.move rfl) rfl rfl rfl ?_
            refine Ops.ex (Ex.add rfl rfl) rfl rfl rfl ?_
            refine Ops.ex (Ex.assign rfl) rfl rfl rfl ?_
            refine Ops.nil ?_
            exact Run.sub (by exact subB_spec ⟨rfl, rfl, trivial⟩) (Run.stop ⟨mb2', Nat.lt_succ_self _, wr (x19 + 1), z18, (hnxb2 _).symm.trans hf, rfl, hz20, hst20⟩)
  · replace hf := ifF (dec_F hc) hf
    refine Run.exit _ rfl ?_
    refine Run.seq ?_
    refine Run.region ?_
    refine Ops.ex (Ex.assign rfl) rfl rfl rfl ?_
    refine Ops.nil ?_
    obtain rfl := Option.some.inj hf
    exact Run.retV [vb true] rfl ⟨rfl, trivial⟩ ⟨z18, rfl, hz20, hst20⟩
def go_law06_Say_Cmd.j1 (p0 : law06Say) (s11 : Str) (s21 : Str) : Option apiCmd :=
  if ((p0.Op % 4).toNat : Int) = 3 then ((cutI [118] 0 ((p0.Old % 2).toNat : Int)).bind fun s26 => (cutI [48, 49, 50, 51, 52, 53, 54, 55, 56, 57] ((p0.Old % 10).toNat : Int) (((p0.Old % 10) + 1).toNat : Int)).bind fun s27 => (catI s26 s27).bind fun s28 => some (⟨((p0.Op % 4).toNat : Int), ((p0.Client % 4).toNat : Int), ((p0.Seq % 40).toNat : Int), s11, s21, s28⟩ : apiCmd)) else (some (⟨((p0.Op % 4).toNat : Int), ((p0.Client % 4).toNat : Int), ((p0.Seq % 40).toNat : Int), s11, s21, []⟩ : apiCmd))
def go_law06_Say_Cmd (p0 : law06Say) : Option apiCmd :=
  (cutI [97, 98, 99, 100, 101, 102, 103, 104] ((p0.Key % 8).toNat : Int) (((p0.Key % 8) + 1).toNat : Int)).bind fun s10 => (catI [107] s10).bind fun s11 => (cutI [118] 0 ((p0.Value % 2).toNat : Int)).bind fun s12 => (cutI [48, 49, 50, 51, 52, 53, 54, 55, 56, 57] ((p0.Value % 10).toNat : Int) (((p0.Value % 10) + 1).toNat : Int)).bind fun s13 => (catI s12 s13).bind fun s14 => if ((p0.Op % 4).toNat : Int) = 0 then (some (⟨0, 0, 0, [], [], []⟩ : apiCmd)) else (if ((p0.Op % 4).toNat : Int) = 2 then (go_law06_Say_Cmd.j1 p0 s11 []) else (go_law06_Say_Cmd.j1 p0 s11 s14))
set_option maxRecDepth 100000 in
set_option maxHeartbeats 4000000 in
theorem go_law06_Say_Cmd.walk {w0 w : World} {X : List Res} {z0 : Zp} {p0 : law06Say} {r : apiCmd} (hst : Ht w0 (frz z0 :: X) w) (hf : go_law06_Say_Cmd p0 = some r) :
    Calls Tryd.prog 31 #[.agg #[vu8 p0.Op, vu8 p0.Client, vu8 p0.Seq, vu8 p0.Key, vu8 p0.Value, vu8 p0.Old]] w fun e w' => ∃ (z' : Zp), e = .returned (.agg #[vi r.Op, vi r.Client, vi r.Seq, vs r.Key, vs r.Value, vs r.Old]) ∧ Le z0 z' ∧ Ht w0 (frz z' :: X) w' := by
  refine calls_np Tryd.func31 rfl rfl ?_
  have hle0 := Le.refl z0
  unfold go_law06_Say_Cmd at hf
  refine Run.seq ?_
  refine Run.region ?_
  refine Ops.boxF [vu8 p0.Op, vu8 p0.Client, vu8 p0.Seq, vu8 p0.Key, vu8 p0.Value, vu8 p0.Old] hst rfl rfl rfl (fun g7 w7 hst7 => ?_)
  refine Ops.allocF [vi 0, vi 0, vi 0, vs [], vs [], vs []] hst7 zr79 rfl rfl (fun g8 w8 hst8 => ?_)
  refine Ops.nil ?_
  refine Run.seq ?_
  refine Run.drawH [([], fun w => ∃ ζ Y, Le z0 ζ ∧ Ht w0 (frz ζ :: (blk g8 [vi 0, vi 0, vi 0, vs [], vs [], vs []] 79) :: (blk g7 [vu8 p0.Op, vu8 p0.Client, vu8 p0.Seq, vu8 p0.Key, vu8 p0.Value, vu8 p0.Old] 88) :: Y) w)] (by kernel_rfl) hst8 (fun w9 hst9 => ?_)
  have hS0 := (⟨_, _, (Le.refl _), (St.up (St.up (St.up hst9 2 rfl) 2 rfl) 2 rfl)⟩ : (fun w => ∃ ζ Y, Le z0 ζ ∧ Ht w0 (frz ζ :: (blk g8 [vi 0, vi 0, vi 0, vs [], vs [], vs []] 79) :: (blk g7 [vu8 p0.Op, vu8 p0.Client, vu8 p0.Seq, vu8 p0.Key, vu8 p0.Value, vu8 p0.Old] 88) :: Y) w) _)
  refine Any.takeE 0 rfl rfl rfl rfl (by kernel_rfl) (fun _ _ _ _ _ h => h) ((Ex.fieldAddr rfl Tryd.underlying88 rfl sz5).s) ?_
  refine Any.take 0 1 rfl rfl rfl rfl rfl (by kernel_rfl) (fun _ _ _ _ _ h => h) (ExS.load rfl Tryd.underlying5 rfl (fun w hS => by obtain ⟨_, _, _, hs⟩ := hS; exact hs.cell (i := 2) rfl rfl)) hS0 ?_
  refine Any.takeE 2 rfl rfl rfl rfl (by kernel_rfl) (fun _ _ _ _ _ h => h) ((Ex.rem8 (a := p0.Op) (b := 4) rfl rfl (by decide)).s) ?_
  refine Any.takeE 3 rfl rfl rfl rfl (by kernel_rfl) (fun _ _ _ _ _ h => h) ((Ex.cu8 rfl Tryd.underlying5 Tryd.underlying77).s) ?_
  refine Any.takeE 4 rfl rfl rfl rfl (by kernel_rfl) (fun _ _ _ _ _ h => h) ((Ex.fieldAddr rfl Tryd.underlying88 rfl sz5).s) ?_
  refine Any.take 0 5 rfl rfl rfl rfl rfl (by kernel_rfl) (fun _ _ _ _ _ h => h) (ExS.load rfl Tryd.underlying5 rfl (fun w hS => by obtain ⟨_, _, _, hs⟩ := hS; exact hs.cell (i := 2) rfl rfl)) hS0 ?_
  refine Any.takeE 6 rfl rfl rfl rfl (by kernel_rfl) (fun _ _ _ _ _ h => h) ((Ex.rem8 (a := p0.Client) (b := 4) rfl rfl (by decide)).s) ?_
  refine Any.takeE 7 rfl rfl rfl rfl (by kernel_rfl) (fun _ _ _ _ _ h => h) ((Ex.cu8 rfl Tryd.underlying5 Tryd.underlying3).s) ?_
  refine Any.takeE 8 rfl rfl rfl rfl (by kernel_rfl) (fun _ _ _ _ _ h => h) ((Ex.fieldAddr rfl Tryd.underlying88 rfl sz5).s) ?_
  refine Any.take 0 9 rfl rfl rfl rfl rfl (by kernel_rfl) (fun _ _ _ _ _ h => h) (ExS.load rfl Tryd.underlying5 rfl (fun w hS => by obtain ⟨_, _, _, hs⟩ := hS; exact hs.cell (i := 2) rfl rfl)) hS0 ?_
  refine Any.takeE 10 rfl rfl rfl rfl (by kernel_rfl) (fun _ _ _ _ _ h => h) ((Ex.rem8 (a := p0.Seq) (b := 40) rfl rfl (by decide)).s) ?_
  refine Any.takeE 11 rfl rfl rfl rfl (by kernel_rfl) (fun _ _ _ _ _ h => h) ((Ex.cu8 rfl Tryd.underlying5 Tryd.underlying3).s) ?_
  refine Any.takeE 12 rfl rfl rfl rfl (by kernel_rfl) (fun _ _ _ _ _ h => h) ((Ex.fieldAddr rfl Tryd.underlying88 rfl sz5).s) ?_
  refine Any.take 0 13 rfl rfl rfl rfl rfl (by kernel_rfl) (fun _ _ _ _ _ h => h) (ExS.load rfl Tryd.underlying5 rfl (fun w hS => by obtain ⟨_, _, _, hs⟩ := hS; exact hs.cell (i := 2) rfl rfl)) hS0 ?_
  refine Any.takeE 14 rfl rfl rfl rfl (by kernel_rfl) (fun _ _ _ _ _ h => h) ((Ex.rem8 (a := p0.Key) (b := 8) rfl rfl (by decide)).s) ?_
  refine Any.takeE 15 rfl rfl rfl rfl (by kernel_rfl) (fun _ _ _ _ _ h => h) ((Ex.fieldAddr rfl Tryd.underlying88 rfl sz5).s) ?_
  refine Any.take 0 16 rfl rfl rfl rfl rfl (by kernel_rfl) (fun _ _ _ _ _ h => h) (ExS.load rfl Tryd.underlying5 rfl (fun w hS => by obtain ⟨_, _, _, hs⟩ := hS; exact hs.cell (i := 2) rfl rfl)) hS0 ?_
  refine Any.takeE 17 rfl rfl rfl rfl (by kernel_rfl) (fun _ _ _ _ _ h => h) ((Ex.rem8 (a := p0.Key) (b := 8) rfl rfl (by decide)).s) ?_
  refine Any.takeE 18 rfl rfl rfl rfl (by kernel_rfl) (fun _ _ _ _ _ h => h) ((Ex.add8 (a := (p0.Key % 8)) (b := 1) rfl rfl).s) ?_
  obtain ⟨s10, hy10, hf⟩ := bnd hf
  refine Any.takeE 19 rfl rfl rfl rfl (by kernel_rfl) (fun _ _ _ _ _ h => h) ((Ex.cutT (s := [97, 98, 99, 100, 101, 102, 103, 104]) hy10 rfl Tryd.underlying9 rfl rfl).s) ?_
  obtain ⟨s11, hy11, hf⟩ := bnd hf
  refine Any.takeE 20 rfl rfl rfl rfl (by kernel_rfl) (fun _ _ _ _ _ h => h) ((Ex.addT (s := [107]) hy11 rfl rfl).s) ?_
  refine Any.takeE 21 rfl rfl rfl rfl (by kernel_rfl) (fun _ _ _ _ _ h => h) ((Ex.fieldAddr rfl Tryd.underlying88 rfl sz5).s) ?_
  refine Any.take 0 22 rfl rfl rfl rfl rfl (by kernel_rfl) (fun _ _ _ _ _ h => h) (ExS.load rfl Tryd.underlying5 rfl (fun w hS => by obtain ⟨_, _, _, hs⟩ := hS; exact hs.cell (i := 2) rfl rfl)) hS0 ?_
  refine Any.takeE 23 rfl rfl rfl rfl (by kernel_rfl) (fun _ _ _ _ _ h => h) ((Ex.rem8 (a := p0.Value) (b := 2) rfl rfl (by decide)).s) ?_
  obtain ⟨s12, hy12, hf⟩ := bnd hf
  refine Any.takeE 24 rfl rfl rfl rfl (by kernel_rfl) (fun _ _ _ _ _ h => h) ((Ex.cutTh (lo := none) (hi := some _) hy12 rfl Tryd.underlying9 rfl ⟨_, rfl⟩).s) ?_
  refine Any.takeE 25 rfl rfl rfl rfl (by kernel_rfl) (fun _ _ _ _ _ h => h) ((Ex.fieldAddr rfl Tryd.underlying88 rfl sz5).s) ?_
  refine Any.take 0 26 rfl rfl rfl rfl rfl (by kernel_rfl) (fun _ _ _ _ _ h => h) (ExS.load rfl Tryd.underlying5 rfl (fun w hS => by obtain ⟨_, _, _, hs⟩ := hS; exact hs.cell (i := 2) rfl rfl)) hS0 ?_
  refine Any.takeE 27 rfl rfl rfl rfl (by kernel_rfl) (fun _ _ _ _ _ h => h) ((Ex.rem8 (a := p0.Value) (b := 10) rfl rfl (by decide)).s) ?_
  refine Any.takeE 28 rfl rfl rfl rfl (by kernel_rfl) (fun _ _ _ _ _ h => h) ((Ex.fieldAddr rfl Tryd.underlying88 rfl sz5).s) ?_
  refine Any.take 0 29 rfl rfl rfl rfl rfl (by kernel_rfl) (fun _ _ _ _ _ h => h) (ExS.load rfl Tryd.underlying5 rfl (fun w hS => by obtain ⟨_, _, _, hs⟩ := hS; exact hs.cell (i := 2) rfl rfl)) hS0 ?_
  refine Any.takeE 30 rfl rfl rfl rfl (by kernel_rfl) (fun _ _ _ _ _ h => h) ((Ex.rem8 (a := p0.Value) (b := 10) rfl rfl (by decide)).s) ?_
  refine Any.takeE 31 rfl rfl rfl rfl (by kernel_rfl) (fun _ _ _ _ _ h => h) ((Ex.add8 (a := (p0.Value % 10)) (b := 1) rfl rfl).s) ?_
  obtain ⟨s13, hy13, hf⟩ := bnd hf
  refine Any.takeE 32 rfl rfl rfl rfl (by kernel_rfl) (fun _ _ _ _ _ h => h) ((Ex.cutT (s := [48, 49, 50, 51, 52, 53, 54, 55, 56, 57]) hy13 rfl Tryd.underlying9 rfl rfl).s) ?_
  obtain ⟨s14, hy14, hf⟩ := bnd hf
  refine Any.takeE 33 rfl rfl rfl rfl (by kernel_rfl) (fun _ _ _ _ _ h => h) ((Ex.addT hy14 rfl rfl).s) ?_
  refine Any.takeE 34 rfl rfl rfl rfl (by kernel_rfl) (fun _ _ _ _ _ h => h) ((Ex.build [vi ((p0.Op % 4).toNat : Int), vi ((p0.Client % 4).toNat : Int), vi ((p0.Seq % 40).toNat : Int), vs s11, vs s14, vs []] rfl Tryd.underlying79 zr79 (pl79 Tryd.underlying79) (by kernel_rfl)).s) ?_
  refine Any.one 35 (by kernel_rfl) rfl rfl (One.of_ops rfl ?_)
  refine Ops.allocF [vi 0, vi 0, vi 0, vs [], vs [], vs []] hst9 zr79 rfl rfl (fun g15 w15 hst15 => Ops.stop ?_)
  have hS0 := (⟨_, _, (Le.refl _), (St.up (St.up (St.up hst15 3 rfl) 3 rfl) 2 rfl)⟩ : (fun w => ∃ ζ Y, Le z0 ζ ∧ Ht w0 (frz ζ :: (blk g8 [vi 0, vi 0, vi 0, vs [], vs [], vs []] 79) :: (blk g7 [vu8 p0.Op, vu8 p0.Client, vu8 p0.Seq, vu8 p0.Key, vu8 p0.Value, vu8 p0.Old] 88) :: Y) w) _)
  refine ⟨⟨.inr (fun _ => hS0), trivial⟩, ?_⟩
  refine Any.one 36 (by kernel_rfl) rfl rfl (One.of_ops rfl ?_)
  refine Ops.store 1 [vi ((p0.Op % 4).toNat : Int), vi ((p0.Client % 4).toNat : Int), vi ((p0.Seq % 40).toNat : Int), vs s11, vs s14, vs []] hst15 rfl rfl rfl rfl sz79 rfl (by simp [Value.oneCell']) (by simp) (fun w16 hst16 => Ops.stop ?_)
  have hS0 := (⟨_, _, (Le.refl _), (St.up (St.up (St.up hst16 3 rfl) 3 rfl) 2 rfl)⟩ : (fun w => ∃ ζ Y, Le z0 ζ ∧ Ht w0 (frz ζ :: (blk g8 [vi 0, vi 0, vi 0, vs [], vs [], vs []] 79) :: (blk g7 [vu8 p0.Op, vu8 p0.Client, vu8 p0.Seq, vu8 p0.Key, vu8 p0.Value, vu8 p0.Old] 88) :: Y) w) _)
  refine ⟨⟨.inr (fun _ => hS0), trivial⟩, ?_⟩
  refine Any.done (by kernel_rfl) ?_
  refine Run.seq ?_
  refine Run.seq ?_
  refine Run.region ?_
  refine Ops.ex (Ex.fieldAddr rfl Tryd.underlying79 rfl sz77) rfl rfl rfl ?_
  refine Ops.load rfl Tryd.underlying77 rfl (hst16.cell (i := 1) rfl rfl) rfl ?_
  refine Ops.ex (Ex.eqlI rfl rfl) rfl rfl rfl ?_
  refine Ops.nil ?_
  refine Run.cond rfl (fun hc => ?_) (fun hc => ?_)
  · replace hf := ifT (dec_T hc) hf
    refine Run.seq ?_
    refine Run.region ?_
    refine Ops.ex (Ex.build [vi 0, vi 0, vi 0, vs [], vs [], vs []] rfl Tryd.underlying79 zr79 (pl79 Tryd.underlying79) (by kernel_rfl)) rfl rfl rfl ?_
    refine Ops.store 2 [vi 0, vi 0, vi 0, vs [], vs [], vs []] hst16 rfl rfl rfl rfl sz79 rfl (by simp [Value.oneCell']) (by simp) (fun w17 hst17 => ?_)
    refine Ops.nil ?_
    obtain rfl := Option.some.inj hf
    exact Run.retV [.agg #[vi 0, vi 0, vi 0, vs [], vs [], vs []]] rfl ⟨⟨_, rfl, run_loadN _ Tryd.underlying79 rfl sz79 rfl (hst17.cells (i := 2) rfl 0 6)⟩, trivial⟩ ⟨z0, rfl, hle0, (St.forget (St.forget (St.forget hst17 3) 2) 1)⟩
  · replace hf := ifF (dec_F hc) hf
    refine Run.skip ?_
    refine Run.seq ?_
    refine Run.seq ?_
    refine Run.region ?_
    refine Ops.ex (Ex.fieldAddr rfl Tryd.underlying79 rfl sz77) rfl rfl rfl ?_
    refine Ops.load rfl Tryd.underlying77 rfl (hst16.cell (i := 1) rfl rfl) rfl ?_
    refine Ops.ex (Ex.eqlI rfl rfl) rfl rfl rfl ?_
    refine Ops.nil ?_
    apply Run.jn (fun e' w' => ∃ (s21 : Str) (z20 : Zp), go_law06_Say_Cmd.j1 p0 s11 s21 = some r ∧ e' = [(1, .pointer (some ⟨g7, 0, none⟩)), (2, .pointer (some ⟨g8, 0, none⟩)), (3, .pointer (some ⟨g15, 0, none⟩))] ∧ Le z0 z20 ∧ Ht w0 (frz z20 :: (blk g15 [vi ((p0.Op % 4).toNat : Int), vi ((p0.Client % 4).toNat : Int), vi ((p0.Seq % 40).toNat : Int), vs s11, vs s21, vs []] 79) :: (blk g8 [vi 0, vi 0, vi 0, vs [], vs [], vs []] 79) :: (blk g7 [vu8 p0.Op, vu8 p0.Client, vu8 p0.Seq, vu8 p0.Key, vu8 p0.Value, vu8 p0.Old] 88) :: X) w')
    · intro hj18
      refine Run.cond rfl (fun hc => ?_) (fun hc => ?_)
      · replace hf := ifT (dec_T hc) hf
        refine Run.region ?_
        refine Ops.ex (Ex.fieldAddr rfl Tryd.underlying79 rfl sz9) rfl rfl rfl ?_
        refine Ops.store 1 [vs []] hst16 rfl rfl rfl rfl sz9 rfl (by simp [Value.oneCell']) (by simp) (fun w22 hst22 => ?_)
        refine Ops.nil ?_
        exact Run.sub (by exact subB_spec ⟨rfl, rfl, rfl, trivial⟩) (hj18 _ _ ⟨[], z0, hf, rfl, hle0, hst22⟩)
      · replace hf := ifF (dec_F hc) hf
        refine Run.skip ?_
        exact Run.sub (by exact subB_spec ⟨rfl, rfl, rfl, trivial⟩) (hj18 _ _ ⟨s14, z0, hf, rfl, hle0, hst16⟩)
    · rintro e' w23 ⟨s21, z20, hf, rfl, hz23, hst23⟩
      unfold go_law06_Say_Cmd.j1 at hf
      refine Run.seq ?_
      refine Run.seq ?_
      refine Run.region ?_
      refine Ops.ex (Ex.fieldAddr rfl Tryd.underlying79 rfl sz77) rfl rfl rfl ?_
      refine Ops.load rfl Tryd.underlying77 rfl (hst23.cell (i := 1) rfl rfl) rfl ?_
      refine Ops.ex (Ex.eqlI rfl rfl) rfl rfl rfl ?_
      refine Ops.nil ?_
      refine Run.cond rfl (fun hc => ?_) (fun hc => ?_)
      · replace hf := ifT (dec_T hc) hf
        have hm25 := Le.refl z20
        refine Run.drawH [([], fun w => ∃ ζ Y, Le z20 ζ ∧ Ht w0 (frz ζ :: (blk g8 [vi 0, vi 0, vi 0, vs [], vs [], vs []] 79) :: (blk g7 [vu8 p0.Op, vu8 p0.Client, vu8 p0.Seq, vu8 p0.Key, vu8 p0.Value, vu8 p0.Old] 88) :: Y) w), ([14], fun w => ∃ ζ Y, Le z20 ζ ∧ Ht w0 (frz ζ :: (blk g15 [vi ((p0.Op % 4).toNat : Int), vi ((p0.Client % 4).toNat : Int), vi ((p0.Seq % 40).toNat : Int), vs s11, vs s21, vs []] 79) :: Y) w)] (by kernel_rfl) hst23 (fun w24 hst24 => ?_)
        have hS0 := (⟨_, _, (Le.refl _), (St.up (St.up (St.up hst24 3 rfl) 3 rfl) 2 rfl)⟩ : (fun w => ∃ ζ Y, Le z20 ζ ∧ Ht w0 (frz ζ :: (blk g8 [vi 0, vi 0, vi 0, vs [], vs [], vs []] 79) :: (blk g7 [vu8 p0.Op, vu8 p0.Client, vu8 p0.Seq, vu8 p0.Key, vu8 p0.Value, vu8 p0.Old] 88) :: Y) w) _)
        have hS1 := (⟨_, _, (Le.refl _), (St.up (St.up hst24 1 rfl) 1 rfl)⟩ : (fun w => ∃ ζ Y, Le z20 ζ ∧ Ht w0 (frz ζ :: (blk g15 [vi ((p0.Op % 4).toNat : Int), vi ((p0.Client % 4).toNat : Int), vi ((p0.Seq % 40).toNat : Int), vs s11, vs s21, vs []] 79) :: Y) w) _)
        refine Any.takeE 0 rfl rfl rfl rfl (by kernel_rfl) (fun _ _ _ _ _ h => h) ((Ex.fieldAddr rfl Tryd.underlying88 rfl sz5).s) ?_
        refine Any.take 0 1 rfl rfl rfl rfl rfl (by kernel_rfl) (fun _ _ _ _ _ h => h) (ExS.load rfl Tryd.underlying5 rfl (fun w hS => by obtain ⟨_, _, _, hs⟩ := hS; exact hs.cell (i := 2) rfl rfl)) hS0 ?_
        refine Any.takeE 2 rfl rfl rfl rfl (by kernel_rfl) (fun _ _ _ _ _ h => h) ((Ex.rem8 (a := p0.Old) (b := 2) rfl rfl (by decide)).s) ?_
        obtain ⟨s26, hy26, hf⟩ := bnd hf
        refine Any.takeE 3 rfl rfl rfl rfl (by kernel_rfl) (fun _ _ _ _ _ h => h) ((Ex.cutTh (lo := none) (hi := some _) hy26 rfl Tryd.underlying9 rfl ⟨_, rfl⟩).s) ?_
        refine Any.takeE 4 rfl rfl rfl rfl (by kernel_rfl) (fun _ _ _ _ _ h => h) ((Ex.fieldAddr rfl Tryd.underlying88 rfl sz5).s) ?_
        refine Any.take 0 5 rfl rfl rfl rfl rfl (by kernel_rfl) (fun _ _ _ _ _ h => h) (ExS.load rfl Tryd.underlying5 rfl (fun w hS => by obtain ⟨_, _, _, hs⟩ := hS; exact hs.cell (i := 2) rfl rfl)) hS0 ?_
        refine Any.takeE 6 rfl rfl rfl rfl (by kernel_rfl) (fun _ _ _ _ _ h => h) ((Ex.rem8 (a := p0.Old) (b := 10) rfl rfl (by decide)).s) ?_
        refine Any.takeE 7 rfl rfl rfl rfl (by kernel_rfl) (fun _ _ _ _ _ h => h) ((Ex.fieldAddr rfl Tryd.underlying88 rfl sz5).s) ?_
        refine Any.take 0 8 rfl rfl rfl rfl rfl (by kernel_rfl) (fun _ _ _ _ _ h => h) (ExS.load rfl Tryd.underlying5 rfl (fun w hS => by obtain ⟨_, _, _, hs⟩ := hS; exact hs.cell (i := 2) rfl rfl)) hS0 ?_
        refine Any.takeE 9 rfl rfl rfl rfl (by kernel_rfl) (fun _ _ _ _ _ h => h) ((Ex.rem8 (a := p0.Old) (b := 10) rfl rfl (by decide)).s) ?_
        refine Any.takeE 10 rfl rfl rfl rfl (by kernel_rfl) (fun _ _ _ _ _ h => h) ((Ex.add8 (a := (p0.Old % 10)) (b := 1) rfl rfl).s) ?_
        obtain ⟨s27, hy27, hf⟩ := bnd hf
        refine Any.takeE 11 rfl rfl rfl rfl (by kernel_rfl) (fun _ _ _ _ _ h => h) ((Ex.cutT (s := [48, 49, 50, 51, 52, 53, 54, 55, 56, 57]) hy27 rfl Tryd.underlying9 rfl rfl).s) ?_
        obtain ⟨s28, hy28, hf⟩ := bnd hf
        refine Any.takeE 12 rfl rfl rfl rfl (by kernel_rfl) (fun _ _ _ _ _ h => h) ((Ex.addT hy28 rfl rfl).s) ?_
        refine Any.takeE 13 rfl rfl rfl rfl (by kernel_rfl) (fun _ _ _ _ _ h => h) ((Ex.fieldAddr rfl Tryd.underlying79 rfl sz9).s) ?_
        refine Any.one 14 (by kernel_rfl) rfl rfl (One.of_ops rfl ?_)
        refine Ops.store 1 [vs s28] hst24 rfl rfl rfl rfl sz9 rfl (by simp [Value.oneCell']) (by simp) (fun w29 hst29 => Ops.stop ?_)
        have hS0 := (⟨_, _, (Le.refl _), (St.up (St.up (St.up hst29 3 rfl) 3 rfl) 2 rfl)⟩ : (fun w => ∃ ζ Y, Le z20 ζ ∧ Ht w0 (frz ζ :: (blk g8 [vi 0, vi 0, vi 0, vs [], vs [], vs []] 79) :: (blk g7 [vu8 p0.Op, vu8 p0.Client, vu8 p0.Seq, vu8 p0.Key, vu8 p0.Value, vu8 p0.Old] 88) :: Y) w) _)
        refine ⟨⟨.inr (fun _ => hS0), .inl (by decide), trivial⟩, ?_⟩
        refine Any.done (by kernel_rfl) ?_
        refine Run.seq ?_
        refine Run.region ?_
        refine Ops.loadAgg _ rfl Tryd.underlying79 rfl sz79 rfl (hst29.cells (i := 1) rfl 0 6) rfl ?_
        refine Ops.store 2 [vi ((p0.Op % 4).toNat : Int), vi ((p0.Client % 4).toNat : Int), vi ((p0.Seq % 40).toNat : Int), vs s11, vs s21, vs s28] hst29 rfl rfl rfl rfl sz79 rfl (by simp [Value.oneCell']) (by simp) (fun w30 hst30 => ?_)
        refine Ops.nil ?_
        obtain rfl := Option.some.inj hf
        exact Run.retV [.agg #[vi ((p0.Op % 4).toNat : Int), vi ((p0.Client % 4).toNat : Int), vi ((p0.Seq % 40).toNat : Int), vs s11, vs s21, vs s28]] rfl ⟨⟨_, rfl, run_loadN _ Tryd.underlying79 rfl sz79 rfl (hst30.cells (i := 2) rfl 0 6)⟩, trivial⟩ ⟨z20, rfl, hz23, (St.forget (St.forget (St.forget hst30 3) 2) 1)⟩
      · replace hf := ifF (dec_F hc) hf
        refine Run.skip ?_
        refine Run.seq ?_
        refine Run.region ?_
        refine Ops.loadAgg _ rfl Tryd.underlying79 rfl sz79 rfl (hst23.cells (i := 1) rfl 0 6) rfl ?_
        refine Ops.store 2 [vi ((p0.Op % 4).toNat : Int), vi ((p0.Client % 4).toNat : Int), vi ((p0.Seq % 40).toNat : Int), vs s11, vs s21, vs []] hst23 rfl rfl rfl rfl sz79 rfl (by simp [Value.oneCell']) (by simp) (fun w31 hst31 => ?_)
        refine Ops.nil ?_
        obtain rfl := Option.some.inj hf
        exact Run.retV [.agg #[vi ((p0.Op % 4).toNat : Int), vi ((p0.Client % 4).toNat : Int), vi ((p0.Seq % 40).toNat : Int), vs s11, vs s21, vs []]] rfl ⟨⟨_, rfl, run_loadN _ Tryd.underlying79 rfl sz79 rfl (hst31.cells (i := 2) rfl 0 6)⟩, trivial⟩ ⟨z20, rfl, hz23, (St.forget (St.forget (St.forget hst31 3) 2) 1)⟩
def go_cmds_May (p0 : apiCmd) : Option Bool :=
  if p0.Op < 0 then (some false) else (if 4 ≤ p0.Op then (some false) else (if 16 < (p0.Value.length : Int) then (some false) else (if 16 < (p0.Old.length : Int) then (some false) else (if p0.Op = 0 then (some (decide (p0 = (⟨0, 0, 0, [], [], []⟩ : apiCmd)))) else (if 0 ≤ p0.Client then (if p0.Client < 4 then (if 0 ≤ p0.Seq then (if p0.Seq ≤ 1048576 then (if p0.Key = [] then (some false) else (some (decide ((p0.Key.length : Int) ≤ 8)))) else (some false)) else (some false)) else (some false)) else (some false))))))
set_option maxRecDepth 100000 in
set_option maxHeartbeats 4000000 in
theorem go_cmds_May.walk {w0 w : World} {X : List Res} {z0 : Zp} {p0 : apiCmd} {r : Bool} (hst : Ht w0 (frz z0 :: X) w) (hf : go_cmds_May p0 = some r) :
    Calls Tryd.prog 51 #[.agg #[vi p0.Op, vi p0.Client, vi p0.Seq, vs p0.Key, vs p0.Value, vs p0.Old]] w fun e w' => ∃ (z' : Zp), e = .returned (vb r) ∧ Le z0 z' ∧ Ht w0 (frz z' :: X) w' := by
  refine calls_np Tryd.func51 rfl rfl ?_
  have hle0 := Le.refl z0
  unfold go_cmds_May at hf
  refine Run.seq ?_
  refine Run.region ?_
  refine Ops.boxF [vi p0.Op, vi p0.Client, vi p0.Seq, vs p0.Key, vs p0.Value, vs p0.Old] hst rfl rfl rfl (fun g7 w7 hst7 => ?_)
  refine Ops.ex (Ex.assign rfl) rfl rfl rfl ?_
  refine Ops.nil ?_
  refine Run.seq ?_
  refine Run.seq ?_
  refine Run.region ?_
  refine Ops.ex (Ex.fieldAddr rfl Tryd.underlying79 rfl sz77) rfl rfl rfl ?_
  refine Ops.load rfl Tryd.underlying77 rfl (hst7.cell (i := 1) rfl rfl) rfl ?_
  refine Ops.ex (Ex.lss rfl rfl) rfl rfl rfl ?_
  refine Ops.ex (Ex.move rfl) rfl rfl rfl ?_
  refine Ops.case 6 rfl (fun hc => ?_) (fun hc => ?_)
  · replace hf := ifT (dec_T hc) hf
    refine Ops.off rfl rfl ?_
    refine Ops.off rfl rfl ?_
    refine Ops.off rfl rfl ?_
    refine Ops.ex (Ex.pickT rfl rfl) rfl rfl rfl ?_
    refine Ops.ex (Ex.move rfl) rfl rfl rfl ?_
    refine Ops.off rfl rfl ?_
    refine Ops.off rfl rfl ?_
    refine Ops.off rfl rfl ?_
    refine Ops.off rfl rfl ?_
    refine Ops.ex (Ex.pickT rfl rfl) rfl rfl rfl ?_
    refine Ops.ex (Ex.move rfl) rfl rfl rfl ?_
    refine Ops.off rfl rfl ?_
    refine Ops.off rfl rfl ?_
    refine Ops.off rfl rfl ?_
    refine Ops.off rfl rfl ?_
    refine Ops.ex (Ex.pickT rfl rfl) rfl rfl rfl ?_
    refine Ops.nil ?_
    refine Run.condT rfl rfl ?_
    refine Run.seq ?_
    refine Run.region ?_
    refine Ops.ex (Ex.assign rfl) rfl rfl rfl ?_
    refine Ops.nil ?_
    obtain rfl := Option.some.inj hf
    exact Run.retV [vb false] rfl ⟨rfl, trivial⟩ ⟨z0, rfl, hle0, (St.forget hst7 1)⟩
  · replace hf := ifF (dec_F hc) hf
    refine Ops.on rfl ?_
    refine Ops.ex (Ex.fieldAddr rfl Tryd.underlying79 rfl sz77) rfl rfl rfl ?_
    refine Ops.on rfl ?_
    refine Ops.load rfl Tryd.underlying77 rfl (hst7.cell (i := 1) rfl rfl) rfl ?_
    refine Ops.on rfl ?_
    refine Ops.ex (Ex.geq rfl rfl) rfl rfl rfl ?_
    refine Ops.ex (Ex.pickF rfl rfl) rfl rfl rfl ?_
    refine Ops.ex (Ex.move rfl) rfl rfl rfl ?_
    refine Ops.case 11 rfl (fun hc => ?_) (fun hc => ?_)
    · replace hf := ifT (dec_T hc) hf
      refine Ops.off rfl rfl ?_
      refine Ops.off rfl rfl ?_
      refine Ops.off rfl rfl ?_
      refine Ops.off rfl rfl ?_
      refine Ops.ex (Ex.pickT rfl rfl) rfl rfl rfl ?_
      refine Ops.ex (Ex.move rfl) rfl rfl rfl ?_
      refine Ops.off rfl rfl ?_
      refine Ops.off rfl rfl ?_
      refine Ops.off rfl rfl ?_
      refine Ops.off rfl rfl ?_
      refine Ops.ex (Ex.pickT rfl rfl) rfl rfl rfl ?_
      refine Ops.nil ?_
      refine Run.condT rfl rfl ?_
      refine Run.seq ?_
      refine Run.region ?_
      refine Ops.ex (Ex.assign rfl) rfl rfl rfl ?_
      refine Ops.nil ?_
      obtain rfl := Option.some.inj hf
      exact Run.retV [vb false] rfl ⟨rfl, trivial⟩ ⟨z0, rfl, hle0, (St.forget hst7 1)⟩
    · replace hf := ifF (dec_F hc) hf
      refine Ops.on rfl ?_
      refine Ops.ex (Ex.fieldAddr rfl Tryd.underlying79 rfl sz9) rfl rfl rfl ?_
      refine Ops.on rfl ?_
      refine Ops.load rfl Tryd.underlying9 rfl (hst7.cell (i := 1) rfl rfl) rfl ?_
      refine Ops.on rfl ?_
      refine Ops.ex (Ex.lenT rfl rfl rfl Tryd.underlying9) rfl rfl rfl ?_
      refine Ops.on rfl ?_
      refine Ops.ex (Ex.gtr rfl rfl) rfl rfl rfl ?_
      refine Ops.ex (Ex.pickF rfl rfl) rfl rfl rfl ?_
      refine Ops.ex (Ex.move rfl) rfl rfl rfl ?_
      refine Ops.case 17 rfl (fun hc => ?_) (fun hc => ?_)
      · replace hf := ifT (dec_T hc) hf
        refine Ops.off rfl rfl ?_
        refine Ops.off rfl rfl ?_
        refine Ops.off rfl rfl ?_
        refine Ops.off rfl rfl ?_
        refine Ops.ex (Ex.pickT rfl rfl) rfl rfl rfl ?_
        refine Ops.nil ?_
        refine Run.condT rfl rfl ?_
        refine Run.seq ?_
        refine Run.region ?_
        refine Ops.ex (Ex.assign rfl) rfl rfl rfl ?_
        refine Ops.nil ?_
        obtain rfl := Option.some.inj hf
        exact Run.retV [vb false] rfl ⟨rfl, trivial⟩ ⟨z0, rfl, hle0, (St.forget hst7 1)⟩
      · replace hf := ifF (dec_F hc) hf
        refine Ops.on rfl ?_
        refine Ops.ex (Ex.fieldAddr rfl Tryd.underlying79 rfl sz9) rfl rfl rfl ?_
        refine Ops.on rfl ?_
        refine Ops.load rfl Tryd.underlying9 rfl (hst7.cell (i := 1) rfl rfl) rfl ?_
        refine Ops.on rfl ?_
        refine Ops.ex (Ex.lenT rfl rfl rfl Tryd.underlying9) rfl rfl rfl ?_
        refine Ops.on rfl ?_
        refine Ops.ex (Ex.gtr rfl rfl) rfl rfl rfl ?_
        refine Ops.ex (Ex.pickF rfl rfl) rfl rfl rfl ?_
        refine Ops.nil ?_
        refine Run.cond rfl (fun hc => ?_) (fun hc => ?_)
        · replace hf := ifT (dec_T hc) hf
          refine Run.seq ?_
          refine Run.region ?_
          refine Ops.ex (Ex.assign rfl) rfl rfl rfl ?_
          refine Ops.nil ?_
          obtain rfl := Option.some.inj hf
          exact Run.retV [vb false] rfl ⟨rfl, trivial⟩ ⟨z0, rfl, hle0, (St.forget hst7 1)⟩
        · replace hf := ifF (dec_F hc) hf
          refine Run.skip ?_
          refine Run.seq ?_
          refine Run.seq ?_
          refine Run.region ?_
          refine Ops.ex (Ex.fieldAddr rfl Tryd.underlying79 rfl sz77) rfl rfl rfl ?_
          refine Ops.load rfl Tryd.underlying77 rfl (hst7.cell (i := 1) rfl rfl) rfl ?_
          refine Ops.ex (Ex.eqlI rfl rfl) rfl rfl rfl ?_
          refine Ops.nil ?_
          refine Run.cond rfl (fun hc => ?_) (fun hc => ?_)
          · replace hf := ifT (dec_T hc) hf
            refine Run.seq ?_
            refine Run.region ?_
            refine Ops.loadAgg _ rfl Tryd.underlying79 rfl sz79 rfl (hst7.cells (i := 1) rfl 0 6) rfl ?_
            refine Ops.ex (Ex.build [vi 0, vi 0, vi 0, vs [], vs [], vs []] rfl Tryd.underlying79 zr79 (pl79 Tryd.underlying79) (by kernel_rfl)) rfl rfl rfl ?_
            refine Ops.ex (Ex.eqlV rfl rfl (eqv79 9998 p0 (⟨0, 0, 0, [], [], []⟩ : apiCmd)) (by kernel_rfl)) rfl rfl rfl ?_
            refine Ops.ex (Ex.assign rfl) rfl rfl rfl ?_
            refine Ops.nil ?_
            obtain rfl := Option.some.inj hf
            exact Run.retV [vb (decide (p0 = (⟨0, 0, 0, [], [], []⟩ : apiCmd)))] rfl ⟨rfl, trivial⟩ ⟨z0, rfl, hle0, (St.forget hst7 1)⟩
          · replace hf := ifF (dec_F hc) hf
            refine Run.skip ?_
            refine Run.seq ?_
            refine Run.region ?_
            refine Ops.ex (Ex.fieldAddr rfl Tryd.underlying79 rfl sz3) rfl rfl rfl ?_
            refine Ops.load rfl Tryd.underlying3 rfl (hst7.cell (i := 1) rfl rfl) rfl ?_
            refine Ops.ex (Ex.geq rfl rfl) rfl rfl rfl ?_
            refine Ops.ex (Ex.move rfl) rfl rfl rfl ?_
            refine Ops.case 32 rfl (fun hc => ?_) (fun hc => ?_)
            · replace hf := ifT (dec_T hc) hf
              refine Ops.on rfl ?_
              refine Ops.ex (Ex.fieldAddr rfl Tryd.underlying79 rfl sz3) rfl rfl rfl ?_
              refine Ops.on rfl ?_
              refine Ops.load rfl Tryd.underlying3 rfl (hst7.cell (i := 1) rfl rfl) rfl ?_
              refine Ops.on rfl ?_
              refine Ops.ex (Ex.lss rfl rfl) rfl rfl rfl ?_
              refine Ops.ex (Ex.pickT rfl rfl) rfl rfl rfl ?_
              refine Ops.ex (Ex.move rfl) rfl rfl rfl ?_
              refine Ops.case 37 rfl (fun hc => ?_) (fun hc => ?_)
              · replace hf := ifT (dec_T hc) hf
                refine Ops.on rfl ?_
                refine Ops.ex (Ex.fieldAddr rfl Tryd.underlying79 rfl sz3) rfl rfl rfl ?_
                refine Ops.on rfl ?_
                refine Ops.load rfl Tryd.underlying3 rfl (hst7.cell (i := 1) rfl rfl) rfl ?_
                refine Ops.on rfl ?_
                refine Ops.ex (Ex.geq rfl rfl) rfl rfl rfl ?_
                refine Ops.ex (Ex.pickT rfl rfl) rfl rfl rfl ?_
                refine Ops.ex (Ex.move rfl) rfl rfl rfl ?_
                refine Ops.case 42 rfl (fun hc => ?_) (fun hc => ?_)
                · replace hf := ifT (dec_T hc) hf
                  refine Ops.on rfl ?_
                  refine Ops.ex (Ex.fieldAddr rfl Tryd.underlying79 rfl sz3) rfl rfl rfl ?_
                  refine Ops.on rfl ?_
                  refine Ops.load rfl Tryd.underlying3 rfl (hst7.cell (i := 1) rfl rfl) rfl ?_
                  refine Ops.on rfl ?_
                  refine Ops.ex (Ex.leq rfl rfl) rfl rfl rfl ?_
                  refine Ops.ex (Ex.pickT rfl rfl) rfl rfl rfl ?_
                  refine Ops.ex (Ex.move rfl) rfl rfl rfl ?_
                  refine Ops.case 47 rfl (fun hc => ?_) (fun hc => ?_)
                  · replace hf := ifT (dec_T hc) hf
                    refine Ops.on rfl ?_
                    refine Ops.ex (Ex.fieldAddr rfl Tryd.underlying79 rfl sz9) rfl rfl rfl ?_
                    refine Ops.on rfl ?_
                    refine Ops.load rfl Tryd.underlying9 rfl (hst7.cell (i := 1) rfl rfl) rfl ?_
                    refine Ops.on rfl ?_
                    refine Ops.ex (Ex.neqT (t := []) rfl rfl) rfl rfl rfl ?_
                    refine Ops.ex (Ex.pickT rfl rfl) rfl rfl rfl ?_
                    refine Ops.ex (Ex.move rfl) rfl rfl rfl ?_
                    refine Ops.case 52 rfl (fun hc => ?_) (fun hc => ?_)
                    · replace hf := ifF (neq_T hc) hf
                      refine Ops.on rfl ?_
                      refine Ops.ex (Ex.fieldAddr rfl Tryd.underlying79 rfl sz9) rfl rfl rfl ?_
                      refine Ops.on rfl ?_
                      refine Ops.load rfl Tryd.underlying9 rfl (hst7.cell (i := 1) rfl rfl) rfl ?_
                      refine Ops.on rfl ?_
                      refine Ops.ex (Ex.lenT rfl rfl rfl Tryd.underlying9) rfl rfl rfl ?_
                      refine Ops.on rfl ?_
                      refine Ops.ex (Ex.leq rfl rfl) rfl rfl rfl ?_
                      refine Ops.ex (Ex.pickT rfl rfl) rfl rfl rfl ?_
                      refine Ops.ex (Ex.assign rfl) rfl rfl rfl ?_
                      refine Ops.nil ?_
                      obtain rfl := Option.some.inj hf
                      exact Run.retV [vb (decide ((p0.Key.length : Int) ≤ 8))] rfl ⟨rfl, trivial⟩ ⟨z0, rfl, hle0, (St.forget hst7 1)⟩
                    · replace hf := ifT (neq_F hc) hf
                      refine Ops.off rfl rfl ?_
                      refine Ops.off rfl rfl ?_
                      refine Ops.off rfl rfl ?_
                      refine Ops.off rfl rfl ?_
                      refine Ops.ex (Ex.pickF rfl rfl) rfl rfl rfl ?_
                      refine Ops.ex (Ex.assign rfl) rfl rfl rfl ?_
                      refine Ops.nil ?_
                      obtain rfl := Option.some.inj hf
                      exact Run.retV [vb false] rfl ⟨rfl, trivial⟩ ⟨z0, rfl, hle0, (St.forget hst7 1)⟩
                  · replace hf := ifF (dec_F hc) hf
                    refine Ops.off rfl rfl ?_
                    refine Ops.off rfl rfl ?_
                    refine Ops.off rfl rfl ?_
                    refine Ops.ex (Ex.pickF rfl rfl) rfl rfl rfl ?_
                    refine Ops.ex (Ex.move rfl) rfl rfl rfl ?_
                    refine Ops.off rfl rfl ?_
                    refine Ops.off rfl rfl ?_
                    refine Ops.off rfl rfl ?_
                    refine Ops.off rfl rfl ?_
                    refine Ops.ex (Ex.pickF rfl rfl) rfl rfl rfl ?_
                    refine Ops.ex (Ex.assign rfl) rfl rfl rfl ?_
                    refine Ops.nil ?_
                    obtain rfl := Option.some.inj hf
                    exact Run.retV [vb false] rfl ⟨rfl, trivial⟩ ⟨z0, rfl, hle0, (St.forget hst7 1)⟩
                · replace hf := ifF (dec_F hc) hf
                  refine Ops.off rfl rfl ?_
                  refine Ops.off rfl rfl ?_
                  refine Ops.off rfl rfl ?_
                  refine Ops.ex (Ex.pickF rfl rfl) rfl rfl rfl ?_
                  refine Ops.ex (Ex.move rfl) rfl rfl rfl ?_
                  refine Ops.off rfl rfl ?_
                  refine Ops.off rfl rfl ?_
                  refine Ops.off rfl rfl ?_
                  refine Ops.ex (Ex.pickF rfl rfl) rfl rfl rfl ?_
                  refine Ops.ex (Ex.move rfl) rfl rfl rfl ?_
                  refine Ops.off rfl rfl ?_
                  refine Ops.off rfl rfl ?_
                  refine Ops.off rfl rfl ?_
                  refine Ops.off rfl rfl ?_
                  refine Ops.ex (Ex.pickF rfl rfl) rfl rfl rfl ?_
                  refine Ops.ex (Ex.assign rfl) rfl rfl rfl ?_
                  refine Ops.nil ?_
                  obtain rfl := Option.some.inj hf
                  exact Run.retV [vb false] rfl ⟨rfl, trivial⟩ ⟨z0, rfl, hle0, (St.forget hst7 1)⟩
              · replace hf := ifF (dec_F hc) hf
                refine Ops.off rfl rfl ?_
                refine Ops.off rfl rfl ?_
                refine Ops.off rfl rfl ?_
                refine Ops.ex (Ex.pickF rfl rfl) rfl rfl rfl ?_
                refine Ops.ex (Ex.move rfl) rfl rfl rfl ?_
                refine Ops.off rfl rfl ?_
                refine Ops.off rfl rfl ?_
                refine Ops.off rfl rfl ?_
                refine Ops.ex (Ex.pickF rfl rfl) rfl rfl rfl ?_
                refine Ops.ex (Ex.move rfl) rfl rfl rfl ?_
                refine Ops.off rfl rfl ?_
                refine Ops.off rfl rfl ?_
                refine Ops.off rfl rfl ?_
                refine Ops.ex (Ex.pickF rfl rfl) rfl rfl rfl ?_
                refine Ops.ex (Ex.move rfl) rfl rfl rfl ?_
                refine Ops.off rfl rfl ?_
                refine Ops.off rfl rfl ?_
                refine Ops.off rfl rfl ?_
                refine Ops.off rfl rfl ?_
                refine Ops.ex (Ex.pickF rfl rfl) rfl rfl rfl ?_
                refine Ops.ex (Ex.assign rfl) rfl rfl rfl ?_
                refine Ops.nil ?_
                obtain rfl := Option.some.inj hf
                exact Run.retV [vb false] rfl ⟨rfl, trivial⟩ ⟨z0, rfl, hle0, (St.forget hst7 1)⟩
            · replace hf := ifF (dec_F hc) hf
              refine Ops.off rfl rfl ?_
              refine Ops.off rfl rfl ?_
              refine Ops.off rfl rfl ?_
              refine Ops.ex (Ex.pickF rfl rfl) rfl rfl rfl ?_
              refine Ops.ex (Ex.move rfl) rfl rfl rfl ?_
              refine Ops.off rfl rfl ?_
              refine Ops.off rfl rfl ?_
              refine Ops.off rfl rfl ?_
              refine Ops.ex (Ex.pickF rfl rfl) rfl rfl rfl ?_
              refine Ops.ex (Ex.move rfl) rfl rfl rfl ?_
              refine Ops.off rfl rfl ?_
              refine Ops.off rfl rfl ?_
              refine Ops.off rfl rfl ?_
              refine Ops.ex (Ex.pickF rfl rfl) rfl rfl rfl ?_
              refine Ops.ex (Ex.move rfl) rfl rfl rfl ?_
              refine Ops.off rfl rfl ?_
              refine Ops.off rfl rfl ?_
              refine Ops.off rfl rfl ?_
              refine Ops.ex (Ex.pickF rfl rfl) rfl rfl rfl ?_
              refine Ops.ex (Ex.move rfl) rfl rfl rfl ?_
              refine Ops.off rfl rfl ?_
              refine Ops.off rfl rfl ?_
              refine Ops.off rfl rfl ?_
              refine Ops.off rfl rfl ?_
              refine Ops.ex (Ex.pickF rfl rfl) rfl rfl rfl ?_
              refine Ops.ex (Ex.assign rfl) rfl rfl rfl ?_
              refine Ops.nil ?_
              obtain rfl := Option.some.inj hf
              exact Run.retV [vb false] rfl ⟨rfl, trivial⟩ ⟨z0, rfl, hle0, (St.forget hst7 1)⟩
def go_cmds_Right (p0 : apiEntry) : Option Bool :=
  if 1 ≤ p0.Index then (if p0.Index ≤ 1048576 then (if 0 ≤ p0.Term then (if p0.Term ≤ 1048576 then ((go_cmds_May p0.Cmd).bind fun y10 => some y10) else (some false)) else (some false)) else (some false)) else (some false)
set_option maxRecDepth 100000 in
set_option maxHeartbeats 4000000 in
theorem go_cmds_Right.walk {w0 w : World} {X : List Res} {z0 : Zp} {p0 : apiEntry} {r : Bool} (hst : Ht w0 (frz z0 :: X) w) (hf : go_cmds_Right p0 = some r) :
    Calls Tryd.prog 36 #[.agg #[vi p0.Index, vi p0.Term, vi p0.Cmd.Op, vi p0.Cmd.Client, vi p0.Cmd.Seq, vs p0.Cmd.Key, vs p0.Cmd.Value, vs p0.Cmd.Old]] w fun e w' => ∃ (z' : Zp), e = .returned (vb r) ∧ Le z0 z' ∧ Ht w0 (frz z' :: X) w' := by
  refine calls_np Tryd.func36 rfl rfl ?_
  have hle0 := Le.refl z0
  unfold go_cmds_Right at hf
  refine Run.seq ?_
  refine Run.region ?_
  refine Ops.boxF [vi p0.Index, vi p0.Term, vi p0.Cmd.Op, vi p0.Cmd.Client, vi p0.Cmd.Seq, vs p0.Cmd.Key, vs p0.Cmd.Value, vs p0.Cmd.Old] hst rfl rfl rfl (fun g9 w9 hst9 => ?_)
  refine Ops.ex (Ex.assign rfl) rfl rfl rfl ?_
  refine Ops.nil ?_
  refine Run.seq ?_
  refine Run.region ?_
  refine Ops.ex (Ex.fieldAddr rfl Tryd.underlying81 rfl sz3) rfl rfl rfl ?_
  refine Ops.load rfl Tryd.underlying3 rfl (hst9.cell (i := 1) rfl rfl) rfl ?_
  refine Ops.ex (Ex.geq rfl rfl) rfl rfl rfl ?_
  refine Ops.ex (Ex.move rfl) rfl rfl rfl ?_
  refine Ops.case 6 rfl (fun hc => ?_) (fun hc => ?_)
  · replace hf := ifT (dec_T hc) hf
    refine Ops.on rfl ?_
    refine Ops.ex (Ex.fieldAddr rfl Tryd.underlying81 rfl sz3) rfl rfl rfl ?_
    refine Ops.on rfl ?_
    refine Ops.load rfl Tryd.underlying3 rfl (hst9.cell (i := 1) rfl rfl) rfl ?_
    refine Ops.on rfl ?_
    refine Ops.ex (Ex.leq rfl rfl) rfl rfl rfl ?_
    refine Ops.ex (Ex.pickT rfl rfl) rfl rfl rfl ?_
    refine Ops.ex (Ex.move rfl) rfl rfl rfl ?_
    refine Ops.case 11 rfl (fun hc => ?_) (fun hc => ?_)
    · replace hf := ifT (dec_T hc) hf
      refine Ops.on rfl ?_
      refine Ops.ex (Ex.fieldAddr rfl Tryd.underlying81 rfl sz3) rfl rfl rfl ?_
      refine Ops.on rfl ?_
      refine Ops.load rfl Tryd.underlying3 rfl (hst9.cell (i := 1) rfl rfl) rfl ?_
      refine Ops.on rfl ?_
      refine Ops.ex (Ex.geq rfl rfl) rfl rfl rfl ?_
      refine Ops.ex (Ex.pickT rfl rfl) rfl rfl rfl ?_
      refine Ops.ex (Ex.move rfl) rfl rfl rfl ?_
      refine Ops.case 16 rfl (fun hc => ?_) (fun hc => ?_)
      · replace hf := ifT (dec_T hc) hf
        refine Ops.on rfl ?_
        refine Ops.ex (Ex.fieldAddr rfl Tryd.underlying81 rfl sz3) rfl rfl rfl ?_
        refine Ops.on rfl ?_
        refine Ops.load rfl Tryd.underlying3 rfl (hst9.cell (i := 1) rfl rfl) rfl ?_
        refine Ops.on rfl ?_
        refine Ops.ex (Ex.leq rfl rfl) rfl rfl rfl ?_
        refine Ops.ex (Ex.pickT rfl rfl) rfl rfl rfl ?_
        refine Ops.ex (Ex.move rfl) rfl rfl rfl ?_
        refine Ops.case 21 rfl (fun hc => ?_) (fun hc => ?_)
        · replace hf := ifT (dec_T hc) hf
          refine Ops.on rfl ?_
          refine Ops.ex (Ex.fieldAddr rfl Tryd.underlying81 rfl sz79) rfl rfl rfl ?_
          refine Ops.on rfl ?_
          refine Ops.loadAgg _ rfl Tryd.underlying79 rfl sz79 rfl (hst9.cells (i := 1) rfl 2 6) rfl ?_
          refine Ops.on rfl ?_
          obtain ⟨y10, hy10, hf⟩ := bnd hf
          refine Ops.call rfl rfl Tryd.func51 (by kernel_rfl) (by kernel_rfl) rfl (go_cmds_May.walk (p0 := p0.Cmd) (hst := hst9) (hf := hy10)) ?_
          rintro _ w10 ⟨z10, rfl, hz10, hst10⟩
          refine ⟨_, rfl, ?_⟩
          replace hle0 := hle0.trans hz10
          refine Ops.ex (Ex.pickT rfl rfl) rfl rfl rfl ?_
          refine Ops.ex (Ex.assign rfl) rfl rfl rfl ?_
          refine Ops.nil ?_
          obtain rfl := Option.some.inj hf
          exact Run.retV [vb y10] rfl ⟨rfl, trivial⟩ ⟨z10, rfl, hle0, (St.forget hst10 1)⟩
        · replace hf := ifF (dec_F hc) hf
          refine Ops.off rfl rfl ?_
          refine Ops.off rfl rfl ?_
          refine Ops.off rfl rfl ?_
          refine Ops.ex (Ex.pickF rfl rfl) rfl rfl rfl ?_
          refine Ops.ex (Ex.assign rfl) rfl rfl rfl ?_
          refine Ops.nil ?_
          obtain rfl := Option.some.inj hf
          exact Run.retV [vb false] rfl ⟨rfl, trivial⟩ ⟨z0, rfl, hle0, (St.forget hst9 1)⟩
      · replace hf := ifF (dec_F hc) hf
        refine Ops.off rfl rfl ?_
        refine Ops.off rfl rfl ?_
        refine Ops.off rfl rfl ?_
        refine Ops.ex (Ex.pickF rfl rfl) rfl rfl rfl ?_
        refine Ops.ex (Ex.move rfl) rfl rfl rfl ?_
        refine Ops.off rfl rfl ?_
        refine Ops.off rfl rfl ?_
        refine Ops.off rfl rfl ?_
        refine Ops.ex (Ex.pickF rfl rfl) rfl rfl rfl ?_
        refine Ops.ex (Ex.assign rfl) rfl rfl rfl ?_
        refine Ops.nil ?_
        obtain rfl := Option.some.inj hf
        exact Run.retV [vb false] rfl ⟨rfl, trivial⟩ ⟨z0, rfl, hle0, (St.forget hst9 1)⟩
    · replace hf := ifF (dec_F hc) hf
      refine Ops.off rfl rfl ?_
      refine Ops.off rfl rfl ?_
      refine Ops.off rfl rfl ?_
      refine Ops.ex (Ex.pickF rfl rfl) rfl rfl rfl ?_
      refine Ops.ex (Ex.move rfl) rfl rfl rfl ?_
      refine Ops.off rfl rfl ?_
      refine Ops.off rfl rfl ?_
      refine Ops.off rfl rfl ?_
      refine Ops.ex (Ex.pickF rfl rfl) rfl rfl rfl ?_
      refine Ops.ex (Ex.move rfl) rfl rfl rfl ?_
      refine Ops.off rfl rfl ?_
      refine Ops.off rfl rfl ?_
      refine Ops.off rfl rfl ?_
      refine Ops.ex (Ex.pickF rfl rfl) rfl rfl rfl ?_
      refine Ops.ex (Ex.assign rfl) rfl rfl rfl ?_
      refine Ops.nil ?_
      obtain rfl := Option.some.inj hf
      exact Run.retV [vb false] rfl ⟨rfl, trivial⟩ ⟨z0, rfl, hle0, (St.forget hst9 1)⟩
  · replace hf := ifF (dec_F hc) hf
    refine Ops.off rfl rfl ?_
    refine Ops.off rfl rfl ?_
    refine Ops.off rfl rfl ?_
    refine Ops.ex (Ex.pickF rfl rfl) rfl rfl rfl ?_
    refine Ops.ex (Ex.move rfl) rfl rfl rfl ?_
    refine Ops.off rfl rfl ?_
    refine Ops.off rfl rfl ?_
    refine Ops.off rfl rfl ?_
    refine Ops.ex (Ex.pickF rfl rfl) rfl rfl rfl ?_
    refine Ops.ex (Ex.move rfl) rfl rfl rfl ?_
    refine Ops.off rfl rfl ?_
    refine Ops.off rfl rfl ?_
    refine Ops.off rfl rfl ?_
    refine Ops.ex (Ex.pickF rfl rfl) rfl rfl rfl ?_
    refine Ops.ex (Ex.move rfl) rfl rfl rfl ?_
    refine Ops.off rfl rfl ?_
    refine Ops.off rfl rfl ?_
    refine Ops.off rfl rfl ?_
    refine Ops.ex (Ex.pickF rfl rfl) rfl rfl rfl ?_
    refine Ops.ex (Ex.assign rfl) rfl rfl rfl ?_
    refine Ops.nil ?_
    obtain rfl := Option.some.inj hf
    exact Run.retV [vb false] rfl ⟨rfl, trivial⟩ ⟨z0, rfl, hle0, (St.forget hst9 1)⟩
def go_sorted_Map_int_api_Session_All_c1.b1 {σ : Type} (yield : (Int × apiSession) → σ → Option (Bool × σ)) (i2 : Nat) (a2 : sorteditemintapiSession) : σ → (σ → Option σ) → Option σ :=
  fun ys29 nxb2 => (yield (a2.key_, a2.value_) ys29).bind fun y39 => if y39.1 then (nxb2 y39.2) else (some y39.2)
def go_sorted_Map_int_api_Session_All_c1 {σ : Type} (yield : (Int × apiSession) → σ → Option (Bool × σ)) (s0 : σ) (q0 : sortedMapintapiSession) : Option σ :=
  forL (go_sorted_Map_int_api_Session_All_c1.b1 yield) (fun ys29 => some ys29) 0 q0.items_ s0
set_option maxRecDepth 100000 in
set_option maxHeartbeats 4000000 in
theorem go_sorted_Map_int_api_Session_All_c1.walk {w0 w : World} {X : List Res} {z0 : Zp} {l : Nat} {σ : Type} {J : σ → Zp → List Res → Prop} {yield : (Int × apiSession) → σ → Option (Bool × σ)} {s0 : σ} {Hs0 : List Res} {q0 : sortedMapintapiSession} {gq0o : Nat} {A1 : Option Addr} {c1 : Nat} {d1 : List Value} {gq0 : Nat} {r : σ} (hst : Ht w0 (frz z0 :: (blk gq0 [.pointer (some ⟨gq0o, 0, none⟩)] 95) :: (blk gq0o [.slice A1 q0.items_.length c1] 121) :: (orow 125 5 (.slice A1 q0.items_.length c1) q0.items_.length d1) :: (Hs0 ++ X)) w) (hY : YC Tryd.prog l w0 J (fun z a us_ => us_ = [vi a.1, .agg #[vi a.2.Client, vi a.2.Seq, vi a.2.Reply.Err, vs a.2.Reply.Value]]) yield) (hJ0 : JH J s0 z0 Hs0) (f1 : Cs tsorteditemintapiSession z0 d1 q0.items_) (hf : go_sorted_Map_int_api_Session_All_c1 yield s0 q0 = some r) :
    Calls Tryd.prog 59 #[.func (.yield l) #[] #[], .pointer (some ⟨gq0, 0, none⟩)] w fun e w' => ∃ (z' : Zp) (Hs9001 : List Res), e = .returned (.tuple #[]) ∧ Le z0 z' ∧ JH J r z' Hs9001 ∧ Ht w0 (frz z' :: (blk gq0 [.pointer (some ⟨gq0o, 0, none⟩)] 95) :: (blk gq0o [.slice A1 q0.items_.length c1] 121) :: (orow 125 5 (.slice A1 q0.items_.length c1) q0.items_.length d1) :: (Hs9001 ++ X)) w' := by
  refine calls_np Tryd.func59 rfl rfl ?_
  have hle0 := Le.refl z0
  unfold go_sorted_Map_int_api_Session_All_c1 at hf
  refine Run.seq ?_
  refine Run.region ?_
  refine Ops.load rfl Tryd.underlying95 rfl (hst.cell (i := 1) rfl rfl) rfl ?_
  refine Ops.ex (Ex.nilCheck rfl) rfl rfl rfl ?_
  refine Ops.ex (Ex.fieldAddr rfl Tryd.underlying121 rfl sz119) rfl rfl rfl ?_
  refine Ops.load rfl Tryd.underlying119 rfl (hst.cell (i := 2) rfl rfl) rfl ?_
  refine Ops.ex (Ex.len' rfl rfl rfl Tryd.underlying119) rfl rfl rfl ?_
  refine Ops.ex (Ex.move rfl) rfl rfl rfl ?_
  refine Ops.nil ?_
  refine Run.block ?_
  have hc2 := (own_slh f1 rfl (hst.get (i := 3) rfl)).cap
  refine Run.sub (e' := [(0, .func (.yield l) #[] #[]), (8, .slice A1 q0.items_.length c1), (9, vi (q0.items_.length : Int)), (10, vi ((0 : Nat) : Int))]) (subB_spec ⟨rfl, rfl, rfl, rfl, trivial⟩) ?_
  refine Run.loop (fun mb2 => (fun e' w' => ∃ (i2 : Nat) (ys29 : σ) (Hs29 : List Res) (z28 : Zp), mb2 = q0.items_.length - i2 ∧ i2 ≤ q0.items_.length ∧ forL (go_sorted_Map_int_api_Session_All_c1.b1 yield) (fun ys29 => some ys29) i2 (q0.items_.drop i2) ys29 = some r ∧ e' = [(0, .func (.yield l) #[] #[]), (8, .slice A1 q0.items_.length c1), (9, vi (q0.items_.length : Int)), (10, vi (i2 : Int))] ∧ Le z0 z28 ∧ JH J ys29 z28 Hs29 ∧ Ht w0 (frz z28 :: (blk gq0 [.pointer (some ⟨gq0o, 0, none⟩)] 95) :: (blk gq0o [.slice A1 q0.items_.length c1] 121) :: (orow 125 5 (.slice A1 q0.items_.length c1) q0.items_.length d1) :: (Hs29 ++ X)) w')) q0.items_.length ⟨0, s0, Hs0, z0, rfl, Nat.zero_le _, hf, rfl, hle0, hJ0, hst⟩ ?_
  rintro _ e' w30 ⟨i2, ys29, Hs29, z28, rfl, hi2, hf, rfl, hz30, hJ29, hst30⟩
  replace f1 := f1.mono hz30
  refine Run.seq ?_
  refine Run.region ?_
  refine Ops.ex (Ex.lss rfl rfl) rfl rfl rfl ?_
  refine Ops.nil ?_
  refine Run.seq ?_
  refine Run.cond rfl (fun hc => ?_) (fun hc => ?_)
  · have hl2 := lt_of_dec hc
    obtain ⟨a2, nxb2, ha2, hnxb2, hf⟩ := forL_in hf hl2
    unfold go_sorted_Map_int_api_Session_All_c1.b1 at hf
    try dsimp only at hf
    refine Run.skip ?_
    refine Run.seq ?_
    refine Run.block ?_
    refine Run.seq ?_
    refine Run.region ?_
    obtain ⟨g36, p36, o36, cs36, hA36, ho36, hr36, f36⟩ := own_elem f1 rfl (hst30.get (i := 3) rfl) (atI_nat ha2)
    obtain rfl := hr36
    refine Ops.ex (Ex.ixA hA36 ho36 (atI_nat ha2) rfl rfl rfl Tryd.underlying119 sz125) rfl rfl rfl ?_
    refine Ops.loadAgg [vi a2.key_, vi a2.value_.Client, vi a2.value_.Seq, vi a2.value_.Reply.Err, vs a2.value_.Reply.Value] rfl Tryd.underlying125 rfl sz125 rfl (cells_of_zc rfl (f36 _ (hst30.get (i := 3) rfl))) rfl ?_
    refine Ops.allocF [vi 0, vi 0, vi 0, vi 0, vs []] hst30 zr125 rfl rfl (fun g37 w37 hst37 => ?_)
    refine Ops.store 1 [vi a2.key_, vi a2.value_.Client, vi a2.value_.Seq, vi a2.value_.Reply.Err, vs a2.value_.Reply.Value] hst37 rfl rfl rfl rfl sz125 rfl (by simp [Value.oneCell']) (by simp) (fun w38 hst38 => ?_)
    refine Ops.nil ?_
    refine Run.seq ?_
    refine Run.region ?_
    refine Ops.ex (Ex.move rfl) rfl rfl rfl ?_
    refine Ops.ex (Ex.fieldAddr rfl Tryd.underlying125 rfl sz3) rfl rfl rfl ?_
    refine Ops.load rfl Tryd.underlying3 rfl (hst38.cell (i := 1) rfl rfl) rfl ?_
    refine Ops.ex (Ex.fieldAddr rfl Tryd.underlying125 rfl sz98) rfl rfl rfl ?_
    refine Ops.loadAgg _ rfl Tryd.underlying98 rfl sz98 rfl (hst38.cells (i := 1) rfl 1 4) rfl ?_
    obtain ⟨y39, hy39, hf⟩ := bnd hf
    refine Ops.yieldZ (a := (a2.key_, a2.value_)) [blk g37 [vi a2.key_, vi a2.value_.Client, vi a2.value_.Seq, vi a2.value_.Reply.Err, vs a2.value_.Reply.Value] 125, blk gq0 [.pointer (some ⟨gq0o, 0, none⟩)] 95, blk gq0o [.slice A1 q0.items_.length c1] 121, orow 125 5 (.slice A1 q0.items_.length c1) q0.items_.length d1] hY hJ29 rfl hst38 hy39 rfl rfl rfl (fun w39 z39 Hs39 hz39 hJ39 hst39 => ?_)
    replace f1 := f1.mono hz39
    replace hz30 := hz30.trans hz39
    have hst39' : Ht w0 (frz z39 :: (blk g37 [vi a2.key_, vi a2.value_.Client, vi a2.value_.Seq, vi a2.value_.Reply.Err, vs a2.value_.Reply.Value] 125) :: (blk gq0 [.pointer (some ⟨gq0o, 0, none⟩)] 95) :: (blk gq0o [.slice A1 q0.items_.length c1] 121) :: (orow 125 5 (.slice A1 q0.items_.length c1) q0.items_.length d1) :: (Hs39 ++ X)) _ := hst39
    refine Ops.ex (Ex.not rfl) rfl rfl rfl ?_
    refine Ops.nil ?_
    refine Run.cond rfl (fun hc => ?_) (fun hc => ?_)
    · replace hf := ifFb (bn_T hc) hf
      obtain rfl := Option.some.inj hf
      exact Run.retV [] rfl trivial ⟨z39, Hs39, rfl, hz30, hJ39, (St.forget hst39' 1)⟩
    · replace hf := ifTb (bn_F hc) hf
      refine Run.skip ?_
      refine Run.endBlk ?_
      refine Run.region ?_
      refine Ops.ex (Ex.add rfl rfl) rfl rfl rfl ?_
      refine Ops.ex (Ex.move rfl) rfl rfl rfl ?_
      refine Ops.nil ?_
      refine Run.re 10 rfl (congrArg vi (wr_succ' hl2 hc2)) ?_
      exact Run.sub (by exact subB_spec ⟨rfl, rfl, rfl, rfl, trivial⟩) (Run.stop ⟨q0.items_.length - (i2 + 1), by omega, i2 + 1, y39.2, Hs39, z39, rfl, by omega, (hnxb2 _).symm.trans hf, rfl, hz30, hJ39, (St.forget hst39' 1)⟩)
  · replace hf := forL_out hf (nlt_of_dec hc)
    try dsimp only at hf
    refine Run.exit _ rfl ?_
    obtain rfl := Option.some.inj hf
    exact Run.doneV [] rfl trivial ⟨z28, Hs29, rfl, hz30, hJ29, hst30⟩
def go_state_Apply.z1 : (Int × apiSession) → (List apiSession) → Option (Bool × ((List apiSession) × Nat)) :=
  fun (a75_0, a75_1) l92 => (apB 40 l92 [a75_1]).bind fun l102 => some (true, (l102, 0))
def go_state_Apply.j2 (p0 : apiState) (p1 : apiEntry) (y34 : sortedMapintapiSession) (y37 : apiSession × Bool) (b48 : Bool) : Option (apiState × apiReply) :=
  if b48 then (if y37.1.Seq = p1.Cmd.Seq then (some ((⟨p1.Index, p1.Term, p0.Pairs, p0.Sessions⟩ : apiState), y37.1.Reply)) else (some ((⟨p1.Index, p1.Term, p0.Pairs, p0.Sessions⟩ : apiState), (⟨12, []⟩ : apiReply)))) else ((go_state_pairs (⟨p1.Index, p1.Term, p0.Pairs, p0.Sessions⟩ : apiState)).bind fun y56 => (go_state_do y56 p1.Cmd).bind fun y59 => (go_state_rows y59.2).bind fun y65 => (go_sorted_Map_int_api_Session_Put y34 p1.Cmd.Client (⟨p1.Cmd.Client, p1.Cmd.Seq, ⟨y59.1.Err, y59.1.Value⟩⟩ : apiSession)).bind fun y68 => (go_sorted_Map_int_api_Session_All y68.2).bind fun y72 => (go_sorted_Map_int_api_Session_All_c1 (yw (go_state_Apply.z1)) ([], 0) y68.2).bind fun (l92, yj75) => if yj75 = 0 then (some ((⟨p1.Index, p1.Term, y65, l92⟩ : apiState), y59.1)) else (none))
def go_state_Apply.j1 (p0 : apiState) (p1 : apiEntry) (b24 : Bool) : Option (apiState × apiReply) :=
  if b24 then (some (p0, (⟨8, []⟩ : apiReply))) else (if p1.Cmd.Op = 0 then (some ((⟨p1.Index, p1.Term, p0.Pairs, p0.Sessions⟩ : apiState), (⟨0, []⟩ : apiReply))) else ((go_state_sessions (⟨p1.Index, p1.Term, p0.Pairs, p0.Sessions⟩ : apiState)).bind fun y34 => (go_sorted_Map_int_api_Session_Get y34 p1.Cmd.Client).bind fun y37 => if y37.2 then (go_state_Apply.j2 p0 p1 y34 y37 (decide (p1.Cmd.Seq ≤ y37.1.Seq))) else (go_state_Apply.j2 p0 p1 y34 y37 false)))
def go_state_Apply (p0 : apiState) (p1 : apiEntry) : Option (apiState × apiReply) :=
  (go_cmds_Right p1).bind fun y17 => if y17 then (if p1.Index = wr (p0.Index + 1) then (go_state_Apply.j1 p0 p1 (decide (p1.Term < p0.Term))) else (go_state_Apply.j1 p0 p1 true)) else (some (p0, (⟨14, []⟩ : apiReply)))
set_option maxRecDepth 100000 in
set_option maxHeartbeats 4000000 in
theorem go_state_Apply.walk {w0 w : World} {X : List Res} {z0 : Zp} {p0 : apiState} {A3 : Option Addr} {c3 : Nat} {A4 : Option Addr} {c4 : Nat} {p1 : apiEntry} {r : apiState × apiReply} (hst : Ht w0 (frz z0 :: X) w) (f3 : Sl tapiPair z0 A3 c3 p0.Pairs) (f4 : Sl tapiSession z0 A4 c4 p0.Sessions) (hf : go_state_Apply p0 p1 = some r) :
    Calls Tryd.prog 30 #[.agg #[vi p0.Index, vi p0.Term, .slice A3 p0.Pairs.length c3, .slice A4 p0.Sessions.length c4], .agg #[vi p1.Index, vi p1.Term, vi p1.Cmd.Op, vi p1.Cmd.Client, vi p1.Cmd.Seq, vs p1.Cmd.Key, vs p1.Cmd.Value, vs p1.Cmd.Old]] w fun e w' => ∃ (z' : Zp) (A9003 : Option Addr) (c9003 : Nat) (A9004 : Option Addr) (c9004 : Nat), e = .returned (.tuple #[.agg #[vi r.1.Index, vi r.1.Term, .slice A9003 r.1.Pairs.length c9003, .slice A9004 r.1.Sessions.length c9004], .agg #[vi r.2.Err, vs r.2.Value]]) ∧ Le z0 z' ∧ Sl tapiPair z' A9003 c9003 r.1.Pairs ∧ Sl tapiSession z' A9004 c9004 r.1.Sessions ∧ Ht w0 (frz z' :: X) w' := by
  refine calls_np Tryd.func30 rfl rfl ?_
  have hle0 := Le.refl z0
  unfold go_state_Apply at hf
  refine Run.seq ?_
  refine Run.region ?_
  refine Ops.boxF [vi p0.Index, vi p0.Term, .slice A3 p0.Pairs.length c3, .slice A4 p0.Sessions.length c4] hst rfl rfl rfl (fun g13 w13 hst13 => ?_)
  refine Ops.boxF [vi p1.Index, vi p1.Term, vi p1.Cmd.Op, vi p1.Cmd.Client, vi p1.Cmd.Seq, vs p1.Cmd.Key, vs p1.Cmd.Value, vs p1.Cmd.Old] hst13 rfl rfl rfl (fun g14 w14 hst14 => ?_)
  refine Ops.allocF [vi 0, vi 0, .slice none 0 0, .slice none 0 0] hst14 zr47 rfl rfl (fun g15 w15 hst15 => ?_)
  refine Ops.allocF [vi 0, vs []] hst15 zr84 rfl rfl (fun g16 w16 hst16 => ?_)
  refine Ops.nil ?_
  refine Run.seq ?_
  refine Run.block ?_
  refine Run.seq ?_
  refine Run.region ?_
  refine Ops.loadAgg _ rfl Tryd.underlying81 rfl sz81 rfl (hst16.cells (i := 3) rfl 0 8) rfl ?_
  obtain ⟨y17, hy17, hf⟩ := bnd hf
  refine Ops.call rfl rfl Tryd.func36 (by kernel_rfl) (by kernel_rfl) rfl (go_cmds_Right.walk (p0 := p1) (hst := hst16) (hf := hy17)) ?_
  rintro _ w17 ⟨z17, rfl, hz17, hst17⟩
  refine ⟨_, rfl, ?_⟩
  replace f3 := f3.mono hz17; replace f4 := f4.mono hz17
  replace hle0 := hle0.trans hz17
  refine Ops.ex (Ex.not rfl) rfl rfl rfl ?_
  refine Ops.ex (Ex.assign rfl) rfl rfl rfl ?_
  refine Ops.nil ?_
  refine Run.cond rfl (fun hc => ?_) (fun hc => ?_)
  · replace hf := ifFb (bn_T hc) hf
    refine Run.seq ?_
    refine Run.region ?_
    refine Ops.loadAgg _ rfl Tryd.underlying47 rfl sz47 rfl (hst17.cells (i := 4) rfl 0 4) rfl ?_
    refine Ops.ex (Ex.build [vi 14, vs []] rfl Tryd.underlying84 zr84 (pl84 Tryd.underlying84) (by kernel_rfl)) rfl rfl rfl ?_
    refine Ops.store 2 [vi p0.Index, vi p0.Term, .slice A3 p0.Pairs.length c3, .slice A4 p0.Sessions.length c4] hst17 rfl rfl rfl rfl sz47 rfl (by simp [Value.oneCell']) (by simp) (fun w19 hst19 => ?_)
    refine Ops.store 1 [vi 14, vs []] hst19 rfl rfl rfl rfl sz84 rfl (by simp [Value.oneCell']) (by simp) (fun w20 hst20 => ?_)
    refine Ops.nil ?_
    obtain rfl := Option.some.inj hf
    exact Run.retV [.agg #[vi p0.Index, vi p0.Term, .slice A3 p0.Pairs.length c3, .slice A4 p0.Sessions.length c4], .agg #[vi 14, vs []]] rfl ⟨⟨_, rfl, run_loadN _ Tryd.underlying47 rfl sz47 rfl (hst20.cells (i := 2) rfl 0 4)⟩, ⟨_, rfl, run_loadN _ Tryd.underlying84 rfl sz84 rfl (hst20.cells (i := 1) rfl 0 2)⟩, trivial⟩ ⟨z17, A3, c3, A4, c4, rfl, hle0, f3, f4, (St.forget (St.forget (St.forget (St.forget hst20 4) 3) 2) 1)⟩
  · replace hf := ifTb (bn_F hc) hf
    refine Run.seq ?_
    have hm22 := Le.refl z17
    apply Run.jn (fun e' w' => ∃ (b24 : Bool) (z23 : Zp), go_state_Apply.j1 p0 p1 b24 = some r ∧ e' = [(2, .pointer (some ⟨g13, 0, none⟩)), (3, .pointer (some ⟨g14, 0, none⟩)), (4, .pointer (some ⟨g15, 0, none⟩)), (5, .pointer (some ⟨g16, 0, none⟩)), (19, vb b24)] ∧ Le z17 z23 ∧ Le z0 z23 ∧ Ht w0 (frz z23 :: (blk g16 [vi 0, vs []] 84) :: (blk g15 [vi 0, vi 0, .slice none 0 0, .slice none 0 0] 47) :: (blk g14 [vi p1.Index, vi p1.Term, vi p1.Cmd.Op, vi p1.Cmd.Client, vi p1.Cmd.Seq, vs p1.Cmd.Key, vs p1.Cmd.Value, vs p1.Cmd.Old] 81) :: (blk g13 [vi p0.Index, vi p0.Term, .slice A3 p0.Pairs.length c3, .slice A4 p0.Sessions.length c4] 47) :: X) w')
    · intro hj21
      refine Run.region ?_
      refine Ops.ex (Ex.fieldAddr rfl Tryd.underlying81 rfl sz3) rfl rfl rfl ?_
      refine Ops.load rfl Tryd.underlying3 rfl (hst17.cell (i := 3) rfl rfl) rfl ?_
      refine Ops.ex (Ex.fieldAddr rfl Tryd.underlying47 rfl sz3) rfl rfl rfl ?_
      refine Ops.load rfl Tryd.underlying3 rfl (hst17.cell (i := 4) rfl rfl) rfl ?_
      refine Ops.ex (Ex.add rfl rfl) rfl rfl rfl ?_
      refine Ops.ex (Ex.neqI rfl rfl) rfl rfl rfl ?_
      refine Ops.ex (Ex.move rfl) rfl rfl rfl ?_
      refine Ops.case 26 rfl (fun hc => ?_) (fun hc => ?_)
      · replace hf := ifF (neq_T hc) hf
        refine Ops.off rfl rfl ?_
        refine Ops.off rfl rfl ?_
        refine Ops.off rfl rfl ?_
        refine Ops.off rfl rfl ?_
        refine Ops.off rfl rfl ?_
        refine Ops.ex (Ex.pickT rfl rfl) rfl rfl rfl ?_
        refine Ops.ex (Ex.assign rfl) rfl rfl rfl ?_
        refine Ops.nil ?_
        exact Run.sub (by exact subB_spec ⟨rfl, rfl, rfl, rfl, rfl, trivial⟩) (hj21 _ _ ⟨true, z17, hf, rfl, hm22, hle0, hst17⟩)
      · replace hf := ifT (neq_F hc) hf
        refine Ops.on rfl ?_
        refine Ops.ex (Ex.fieldAddr rfl Tryd.underlying81 rfl sz3) rfl rfl rfl ?_
        refine Ops.on rfl ?_
        refine Ops.load rfl Tryd.underlying3 rfl (hst17.cell (i := 3) rfl rfl) rfl ?_
        refine Ops.on rfl ?_
        refine Ops.ex (Ex.fieldAddr rfl Tryd.underlying47 rfl sz3) rfl rfl rfl ?_
        refine Ops.on rfl ?_
        refine Ops.load rfl Tryd.underlying3 rfl (hst17.cell (i := 4) rfl rfl) rfl ?_
        refine Ops.on rfl ?_
        refine Ops.ex (Ex.lss rfl rfl) rfl rfl rfl ?_
        refine Ops.ex (Ex.pickF rfl rfl) rfl rfl rfl ?_
        refine Ops.ex (Ex.assign rfl) rfl rfl rfl ?_
        refine Ops.nil ?_
        exact Run.sub (by exact subB_spec ⟨rfl, rfl, rfl, rfl, rfl, trivial⟩) (hj21 _ _ ⟨decide (p1.Term < p0.Term), z17, hf, rfl, hm22, hle0, hst17⟩)
    · rintro e' w25 ⟨b24, z23, hf, rfl, hz25, hy25_0, hst25⟩
      replace f3 := f3.mono hz25; replace f4 := f4.mono hz25
      unfold go_state_Apply.j1 at hf
      refine Run.cond rfl (fun hc => ?_) (fun hc => ?_)
      · replace hf := ifTb hc hf
        refine Run.seq ?_
        refine Run.region ?_
        refine Ops.loadAgg _ rfl Tryd.underlying47 rfl sz47 rfl (hst25.cells (i := 4) rfl 0 4) rfl ?_
        refine Ops.ex (Ex.build [vi 8, vs []] rfl Tryd.underlying84 zr84 (pl84 Tryd.underlying84) (by kernel_rfl)) rfl rfl rfl ?_
        refine Ops.store 2 [vi p0.Index, vi p0.Term, .slice A3 p0.Pairs.length c3, .slice A4 p0.Sessions.length c4] hst25 rfl rfl rfl rfl sz47 rfl (by simp [Value.oneCell']) (by simp) (fun w26 hst26 => ?_)
        refine Ops.store 1 [vi 8, vs []] hst26 rfl rfl rfl rfl sz84 rfl (by simp [Value.oneCell']) (by simp) (fun w27 hst27 => ?_)
        refine Ops.nil ?_
        obtain rfl := Option.some.inj hf
        exact Run.retV [.agg #[vi p0.Index, vi p0.Term, .slice A3 p0.Pairs.length c3, .slice A4 p0.Sessions.length c4], .agg #[vi 8, vs []]] rfl ⟨⟨_, rfl, run_loadN _ Tryd.underlying47 rfl sz47 rfl (hst27.cells (i := 2) rfl 0 4)⟩, ⟨_, rfl, run_loadN _ Tryd.underlying84 rfl sz84 rfl (hst27.cells (i := 1) rfl 0 2)⟩, trivial⟩ ⟨z23, A3, c3, A4, c4, rfl, hy25_0, f3, f4, (St.forget (St.forget (St.forget (St.forget hst27 4) 3) 2) 1)⟩
      · replace hf := ifFb hc hf
        refine Run.skip ?_
        refine Run.endBlk ?_
        refine Run.seq ?_
        have hm29 := Le.refl z23
        refine Run.drawH [([], fun w => ∃ ζ Y, Le z23 ζ ∧ Ht w0 (frz ζ :: (blk g16 [vi 0, vs []] 84) :: (blk g15 [vi 0, vi 0, .slice none 0 0, .slice none 0 0] 47) :: (blk g14 [vi p1.Index, vi p1.Term, vi p1.Cmd.Op, vi p1.Cmd.Client, vi p1.Cmd.Seq, vs p1.Cmd.Key, vs p1.Cmd.Value, vs p1.Cmd.Old] 81) :: Y) w), ([5, 7], fun w => ∃ ζ Y, Le z23 ζ ∧ Ht w0 (frz ζ :: (blk g13 [vi p0.Index, vi p0.Term, .slice A3 p0.Pairs.length c3, .slice A4 p0.Sessions.length c4] 47) :: Y) w)] (by kernel_rfl) hst25 (fun w28 hst28 => ?_)
        have hS0 := (⟨_, _, (Le.refl _), (St.up (St.up (St.up (St.up hst28 3 rfl) 3 rfl) 3 rfl) 3 rfl)⟩ : (fun w => ∃ ζ Y, Le z23 ζ ∧ Ht w0 (frz ζ :: (blk g16 [vi 0, vs []] 84) :: (blk g15 [vi 0, vi 0, .slice none 0 0, .slice none 0 0] 47) :: (blk g14 [vi p1.Index, vi p1.Term, vi p1.Cmd.Op, vi p1.Cmd.Client, vi p1.Cmd.Seq, vs p1.Cmd.Key, vs p1.Cmd.Value, vs p1.Cmd.Old] 81) :: Y) w) _)
        have hS1 := (⟨_, _, (Le.refl _), (St.up (St.up hst28 4 rfl) 1 rfl)⟩ : (fun w => ∃ ζ Y, Le z23 ζ ∧ Ht w0 (frz ζ :: (blk g13 [vi p0.Index, vi p0.Term, .slice A3 p0.Pairs.length c3, .slice A4 p0.Sessions.length c4] 47) :: Y) w) _)
        refine Any.takeE 0 rfl rfl rfl rfl (by kernel_rfl) (fun _ _ _ _ _ h => h) ((Ex.fieldAddr rfl Tryd.underlying81 rfl sz3).s) ?_
        refine Any.take 0 1 rfl rfl rfl rfl rfl (by kernel_rfl) (fun _ _ _ _ _ h => h) (ExS.load rfl Tryd.underlying3 rfl (fun w hS => by obtain ⟨_, _, _, hs⟩ := hS; exact hs.cell (i := 3) rfl rfl)) hS0 ?_
        refine Any.takeE 2 rfl rfl rfl rfl (by kernel_rfl) (fun _ _ _ _ _ h => h) ((Ex.fieldAddr rfl Tryd.underlying81 rfl sz3).s) ?_
        refine Any.take 0 3 rfl rfl rfl rfl rfl (by kernel_rfl) (fun _ _ _ _ _ h => h) (ExS.load rfl Tryd.underlying3 rfl (fun w hS => by obtain ⟨_, _, _, hs⟩ := hS; exact hs.cell (i := 3) rfl rfl)) hS0 ?_
        refine Any.takeE 4 rfl rfl rfl rfl (by kernel_rfl) (fun _ _ _ _ _ h => h) ((Ex.fieldAddr rfl Tryd.underlying47 rfl sz3).s) ?_
        refine Any.one 5 (by kernel_rfl) rfl rfl (One.of_ops rfl ?_)
        refine Ops.store 4 [vi p1.Index] hst28 rfl rfl rfl rfl sz3 rfl (by simp [Value.oneCell']) (by simp) (fun w30 hst30 => Ops.stop ?_)
        have hS0 := (⟨_, _, (Le.refl _), (St.up (St.up (St.up (St.up hst30 3 rfl) 3 rfl) 3 rfl) 3 rfl)⟩ : (fun w => ∃ ζ Y, Le z23 ζ ∧ Ht w0 (frz ζ :: (blk g16 [vi 0, vs []] 84) :: (blk g15 [vi 0, vi 0, .slice none 0 0, .slice none 0 0] 47) :: (blk g14 [vi p1.Index, vi p1.Term, vi p1.Cmd.Op, vi p1.Cmd.Client, vi p1.Cmd.Seq, vs p1.Cmd.Key, vs p1.Cmd.Value, vs p1.Cmd.Old] 81) :: Y) w) _)
        refine ⟨⟨.inr (fun _ => hS0), .inl (by decide), trivial⟩, ?_⟩
        refine Any.takeE 6 rfl rfl rfl rfl (by kernel_rfl) (fun _ _ _ _ _ h => h) ((Ex.fieldAddr rfl Tryd.underlying47 rfl sz3).s) ?_
        refine Any.one 7 (by kernel_rfl) rfl rfl (One.of_ops rfl ?_)
        refine Ops.store 4 [vi p1.Term] hst30 rfl rfl rfl rfl sz3 rfl (by simp [Value.oneCell']) (by simp) (fun w31 hst31 => Ops.stop ?_)
        have hS0 := (⟨_, _, (Le.refl _), (St.up (St.up (St.up (St.up hst31 3 rfl) 3 rfl) 3 rfl) 3 rfl)⟩ : (fun w => ∃ ζ Y, Le z23 ζ ∧ Ht w0 (frz ζ :: (blk g16 [vi 0, vs []] 84) :: (blk g15 [vi 0, vi 0, .slice none 0 0, .slice none 0 0] 47) :: (blk g14 [vi p1.Index, vi p1.Term, vi p1.Cmd.Op, vi p1.Cmd.Client, vi p1.Cmd.Seq, vs p1.Cmd.Key, vs p1.Cmd.Value, vs p1.Cmd.Old] 81) :: Y) w) _)
        refine ⟨⟨.inr (fun _ => hS0), .inl (by decide), trivial⟩, ?_⟩
        refine Any.done (by kernel_rfl) ?_
        refine Run.seq ?_
        refine Run.seq ?_
        refine Run.region ?_
        refine Ops.ex (Ex.fieldAddr rfl Tryd.underlying81 rfl sz79) rfl rfl rfl ?_
        refine Ops.ex (Ex.fieldAddr rfl Tryd.underlying79 rfl sz77) rfl rfl rfl ?_
        refine Ops.load rfl Tryd.underlying77 rfl (hst31.cell (i := 3) rfl rfl) rfl ?_
        refine Ops.ex (Ex.eqlI rfl rfl) rfl rfl rfl ?_
        refine Ops.nil ?_
        refine Run.cond rfl (fun hc => ?_) (fun hc => ?_)
        · replace hf := ifT (dec_T hc) hf
          refine Run.seq ?_
          refine Run.region ?_
          refine Ops.loadAgg _ rfl Tryd.underlying47 rfl sz47 rfl (hst31.cells (i := 4) rfl 0 4) rfl ?_
          refine Ops.ex (Ex.build [vi 0, vs []] rfl Tryd.underlying84 zr84 (pl84 Tryd.underlying84) (by kernel_rfl)) rfl rfl rfl ?_
          refine Ops.store 2 [vi p1.Index, vi p1.Term, .slice A3 p0.Pairs.length c3, .slice A4 p0.Sessions.length c4] hst31 rfl rfl rfl rfl sz47 rfl (by simp [Value.oneCell']) (by simp) (fun w32 hst32 => ?_)
          refine Ops.store 1 [vi 0, vs []] hst32 rfl rfl rfl rfl sz84 rfl (by simp [Value.oneCell']) (by simp) (fun w33 hst33 => ?_)
          refine Ops.nil ?_
          obtain rfl := Option.some.inj hf
          exact Run.retV [.agg #[vi p1.Index, vi p1.Term, .slice A3 p0.Pairs.length c3, .slice A4 p0.Sessions.length c4], .agg #[vi 0, vs []]] rfl ⟨⟨_, rfl, run_loadN _ Tryd.underlying47 rfl sz47 rfl (hst33.cells (i := 2) rfl 0 4)⟩, ⟨_, rfl, run_loadN _ Tryd.underlying84 rfl sz84 rfl (hst33.cells (i := 1) rfl 0 2)⟩, trivial⟩ ⟨z23, A3, c3, A4, c4, rfl, hy25_0, f3, f4, (St.forget (St.forget (St.forget (St.forget hst33 4) 3) 2) 1)⟩
        · replace hf := ifF (dec_F hc) hf
          refine Run.skip ?_
          refine Run.seq ?_
          refine Run.region ?_
          refine Ops.loadAgg _ rfl Tryd.underlying47 rfl sz47 rfl (hst31.cells (i := 4) rfl 0 4) rfl ?_
          obtain ⟨y34, hy34, hf⟩ := bnd hf
          refine Ops.call rfl rfl Tryd.func37 (by kernel_rfl) (by kernel_rfl) rfl (go_state_sessions.walk (p0 := (⟨p1.Index, p1.Term, p0.Pairs, p0.Sessions⟩ : apiState)) (hst := hst31) (f3 := f3) (f4 := f4) (hf := hy34)) ?_
          rintro _ w34 ⟨z34, g35, A36, c36, d36, rfl, hz34, f36, hst34⟩
          refine ⟨_, rfl, ?_⟩
          replace f3 := f3.mono hz34; replace f4 := f4.mono hz34
          replace hy25_0 := hy25_0.trans hz34
          replace hz25 := hz25.trans hz34
          replace hm29 := hm29.trans hz34
          refine Ops.ex (Ex.assign rfl) rfl rfl rfl ?_
          refine Ops.nil ?_
          refine Run.seq ?_
          refine Run.seq ?_
          refine Run.region ?_
          refine Ops.ex (Ex.move rfl) rfl rfl rfl ?_
          refine Ops.ex (Ex.fieldAddr rfl Tryd.underlying81 rfl sz79) rfl rfl rfl ?_
          refine Ops.ex (Ex.fieldAddr rfl Tryd.underlying79 rfl sz3) rfl rfl rfl ?_
          refine Ops.load rfl Tryd.underlying3 rfl (hst34.cell (i := 5) rfl rfl) rfl ?_
          obtain ⟨y37, hy37, hf⟩ := bnd hf
          refine Ops.call rfl rfl Tryd.func38 (by kernel_rfl) (by kernel_rfl) rfl (go_sorted_Map_int_api_Session_Get.walk (p0 := y34) (p1 := p1.Cmd.Client) (hst := hst34) (f1 := f36) (hf := hy37)) ?_
          rintro _ w37 ⟨z37, rfl, hz37, hst37⟩
          refine ⟨_, rfl, ?_⟩
          replace f3 := f3.mono hz37; replace f4 := f4.mono hz37; replace f36 := f36.mono hz37
          replace hy25_0 := hy25_0.trans hz37
          replace hz25 := hz25.trans hz37
          replace hm29 := hm29.trans hz37
          refine Ops.ex (Ex.move rfl) rfl rfl rfl ?_
          refine Ops.ex (Ex.extract rfl rfl) rfl rfl rfl ?_
          refine Ops.ex (Ex.extract rfl rfl) rfl rfl rfl ?_
          refine Ops.allocF [vi 0, vi 0, vi 0, vs []] hst37 zr98 rfl rfl (fun g43 w43 hst43 => ?_)
          refine Ops.store 1 [vi y37.1.Client, vi y37.1.Seq, vi y37.1.Reply.Err, vs y37.1.Reply.Value] hst43 rfl rfl rfl rfl sz98 rfl (by simp [Value.oneCell']) (by simp) (fun w44 hst44 => ?_)
          refine Ops.ex (Ex.assign rfl) rfl rfl rfl ?_
          refine Ops.nil ?_
          refine Run.seq ?_
          have hm46 := Le.refl z37
          apply Run.jn (fun e' w' => ∃ (b48 : Bool) (z47 : Zp), go_state_Apply.j2 p0 p1 y34 y37 b48 = some r ∧ e' = [(2, .pointer (some ⟨g13, 0, none⟩)), (3, .pointer (some ⟨g14, 0, none⟩)), (4, .pointer (some ⟨g15, 0, none⟩)), (5, .pointer (some ⟨g16, 0, none⟩)), (6, .pointer (some ⟨g35, 0, none⟩)), (7, .pointer (some ⟨g43, 0, none⟩)), (65, vb b48)] ∧ Le z37 z47 ∧ Le z0 z47 ∧ Le z17 z47 ∧ Le z23 z47 ∧ Ht w0 (frz z47 :: (blk g43 [vi y37.1.Client, vi y37.1.Seq, vi y37.1.Reply.Err, vs y37.1.Reply.Value] 98) :: (blk g35 [.slice A36 y34.items_.length c36] 121) :: (orow 125 5 (.slice A36 y34.items_.length c36) y34.items_.length d36) :: (blk g16 [vi 0, vs []] 84) :: (blk g15 [vi 0, vi 0, .slice none 0 0, .slice none 0 0] 47) :: (blk g14 [vi p1.Index, vi p1.Term, vi p1.Cmd.Op, vi p1.Cmd.Client, vi p1.Cmd.Seq, vs p1.Cmd.Key, vs p1.Cmd.Value, vs p1.Cmd.Old] 81) :: (blk g13 [vi p1.Index, vi p1.Term, .slice A3 p0.Pairs.length c3, .slice A4 p0.Sessions.length c4] 47) :: X) w')
          · intro hj45
            refine Run.region ?_
            refine Ops.ex (Ex.move rfl) rfl rfl rfl ?_
            refine Ops.ex (Ex.move rfl) rfl rfl rfl ?_
            refine Ops.case 58 rfl (fun hc => ?_) (fun hc => ?_)
            · replace hf := ifTb hc hf
              refine Ops.on rfl ?_
              refine Ops.ex (Ex.fieldAddr rfl Tryd.underlying98 rfl sz3) rfl rfl rfl ?_
              refine Ops.on rfl ?_
              refine Ops.load rfl Tryd.underlying3 rfl (hst44.cell (i := 1) rfl rfl) rfl ?_
              refine Ops.on rfl ?_
              refine Ops.ex (Ex.fieldAddr rfl Tryd.underlying81 rfl sz79) rfl rfl rfl ?_
              refine Ops.on rfl ?_
              refine Ops.ex (Ex.fieldAddr rfl Tryd.underlying79 rfl sz3) rfl rfl rfl ?_
              refine Ops.on rfl ?_
              refine Ops.load rfl Tryd.underlying3 rfl (hst44.cell (i := 6) rfl rfl) rfl ?_
              refine Ops.on rfl ?_
              refine Ops.ex (Ex.geq rfl rfl) rfl rfl rfl ?_
              refine Ops.ex (Ex.pickT rfl rfl) rfl rfl rfl ?_
              refine Ops.nil ?_
              exact Run.sub (by exact subB_spec ⟨rfl, rfl, rfl, rfl, rfl, rfl, rfl, trivial⟩) (hj45 _ _ ⟨decide (p1.Cmd.Seq ≤ y37.1.Seq), z37, hf, rfl, hm46, hy25_0, hz25, hm29, hst44⟩)
            · replace hf := ifFb hc hf
              refine Ops.off rfl rfl ?_
              refine Ops.off rfl rfl ?_
              refine Ops.off rfl rfl ?_
              refine Ops.off rfl rfl ?_
              refine Ops.off rfl rfl ?_
              refine Ops.off rfl rfl ?_
              refine Ops.ex (Ex.pickF rfl rfl) rfl rfl rfl ?_
              refine Ops.nil ?_
              exact Run.sub (by exact subB_spec ⟨rfl, rfl, rfl, rfl, rfl, rfl, rfl, trivial⟩) (hj45 _ _ ⟨false, z37, hf, rfl, hm46, hy25_0, hz25, hm29, hst44⟩)
          · rintro e' w49 ⟨b48, z47, hf, rfl, hz49, hy49_0, hy49_1, hy49_2, hst49⟩
            replace f36 := f36.mono hz49; replace f3 := f3.mono hz49; replace f4 := f4.mono hz49
            unfold go_state_Apply.j2 at hf
            refine Run.cond rfl (fun hc => ?_) (fun hc => ?_)
            · replace hf := ifTb hc hf
              refine Run.seq ?_
              refine Run.seq ?_
              refine Run.region ?_
              refine Ops.ex (Ex.fieldAddr rfl Tryd.underlying98 rfl sz3) rfl rfl rfl ?_
              refine Ops.load rfl Tryd.underlying3 rfl (hst49.cell (i := 1) rfl rfl) rfl ?_
              refine Ops.ex (Ex.fieldAddr rfl Tryd.underlying81 rfl sz79) rfl rfl rfl ?_
              refine Ops.ex (Ex.fieldAddr rfl Tryd.underlying79 rfl sz3) rfl rfl rfl ?_
              refine Ops.load rfl Tryd.underlying3 rfl (hst49.cell (i := 6) rfl rfl) rfl ?_
              refine Ops.ex (Ex.eqlI rfl rfl) rfl rfl rfl ?_
              refine Ops.nil ?_
              refine Run.cond rfl (fun hc => ?_) (fun hc => ?_)
              · replace hf := ifT (dec_T hc) hf
                refine Run.seq ?_
                have hm51 := Le.refl z47
                refine Run.drawH [([], fun w => ∃ ζ Y, Le z47 ζ ∧ Ht w0 (frz ζ :: (blk g43 [vi y37.1.Client, vi y37.1.Seq, vi y37.1.Reply.Err, vs y37.1.Reply.Value] 98) :: (blk g35 [.slice A36 y34.items_.length c36] 121) :: (orow 125 5 (.slice A36 y34.items_.length c36) y34.items_.length d36) :: (blk g14 [vi p1.Index, vi p1.Term, vi p1.Cmd.Op, vi p1.Cmd.Client, vi p1.Cmd.Seq, vs p1.Cmd.Key, vs p1.Cmd.Value, vs p1.Cmd.Old] 81) :: (blk g13 [vi p1.Index, vi p1.Term, .slice A3 p0.Pairs.length c3, .slice A4 p0.Sessions.length c4] 47) :: Y) w), ([3, 4], fun w => ∃ ζ Y, Le z47 ζ ∧ Ht w0 (frz ζ :: (blk g15 [vi 0, vi 0, .slice none 0 0, .slice none 0 0] 47) :: Y) w), ([4], fun w => ∃ ζ Y, Le z47 ζ ∧ Ht w0 (frz ζ :: (blk g16 [vi 0, vs []] 84) :: Y) w)] (by kernel_rfl) hst49 (fun w50 hst50 => ?_)
                have hS0 := (⟨_, _, (Le.refl _), (St.up (St.up (St.up (St.up (St.up (St.up hst50 7 rfl) 7 rfl) 5 rfl) 5 rfl) 5 rfl) 5 rfl)⟩ : (fun w => ∃ ζ Y, Le z47 ζ ∧ Ht w0 (frz ζ :: (blk g43 [vi y37.1.Client, vi y37.1.Seq, vi y37.1.Reply.Err, vs y37.1.Reply.Value] 98) :: (blk g35 [.slice A36 y34.items_.length c36] 121) :: (orow 125 5 (.slice A36 y34.items_.length c36) y34.items_.length d36) :: (blk g14 [vi p1.Index, vi p1.Term, vi p1.Cmd.Op, vi p1.Cmd.Client, vi p1.Cmd.Seq, vs p1.Cmd.Key, vs p1.Cmd.Value, vs p1.Cmd.Old] 81) :: (blk g13 [vi p1.Index, vi p1.Term, .slice A3 p0.Pairs.length c3, .slice A4 p0.Sessions.length c4] 47) :: Y) w) _)
                have hS1 := (⟨_, _, (Le.refl _), (St.up (St.up hst50 5 rfl) 1 rfl)⟩ : (fun w => ∃ ζ Y, Le z47 ζ ∧ Ht w0 (frz ζ :: (blk g15 [vi 0, vi 0, .slice none 0 0, .slice none 0 0] 47) :: Y) w) _)
                have hS2 := (⟨_, _, (Le.refl _), (St.up (St.up hst50 4 rfl) 1 rfl)⟩ : (fun w => ∃ ζ Y, Le z47 ζ ∧ Ht w0 (frz ζ :: (blk g16 [vi 0, vs []] 84) :: Y) w) _)
                refine Any.take 0 0 rfl rfl rfl rfl rfl (by kernel_rfl) (fun _ _ _ _ _ h => h) (ExS.loadAgg [vi p1.Index, vi p1.Term, .slice A3 p0.Pairs.length c3, .slice A4 p0.Sessions.length c4] rfl Tryd.underlying47 rfl sz47 rfl (fun w hS => by obtain ⟨_, _, _, hs⟩ := hS; exact hs.cells (i := 5) rfl 0 4)) hS0 ?_
                refine Any.takeE 1 rfl rfl rfl rfl (by kernel_rfl) (fun _ _ _ _ _ h => h) ((Ex.fieldAddr rfl Tryd.underlying98 rfl sz84).s) ?_
                refine Any.take 0 2 rfl rfl rfl rfl rfl (by kernel_rfl) (fun _ _ _ _ _ h => h) (ExS.loadAgg [vi y37.1.Reply.Err, vs y37.1.Reply.Value] rfl Tryd.underlying84 rfl sz84 rfl (fun w hS => by obtain ⟨_, _, _, hs⟩ := hS; exact hs.cells (i := 1) rfl 2 2)) hS0 ?_
                refine Any.one 3 (by kernel_rfl) rfl rfl (One.of_ops rfl ?_)
                refine Ops.store 5 [vi p1.Index, vi p1.Term, .slice A3 p0.Pairs.length c3, .slice A4 p0.Sessions.length c4] hst50 rfl rfl rfl rfl sz47 rfl (by simp [Value.oneCell']) (by simp) (fun w52 hst52 => Ops.stop ?_)
                have hS0 := (⟨_, _, (Le.refl _), (St.up (St.up (St.up (St.up (St.up (St.up hst52 7 rfl) 7 rfl) 5 rfl) 5 rfl) 5 rfl) 5 rfl)⟩ : (fun w => ∃ ζ Y, Le z47 ζ ∧ Ht w0 (frz ζ :: (blk g43 [vi y37.1.Client, vi y37.1.Seq, vi y37.1.Reply.Err, vs y37.1.Reply.Value] 98) :: (blk g35 [.slice A36 y34.items_.length c36] 121) :: (orow 125 5 (.slice A36 y34.items_.length c36) y34.items_.length d36) :: (blk g14 [vi p1.Index, vi p1.Term, vi p1.Cmd.Op, vi p1.Cmd.Client, vi p1.Cmd.Seq, vs p1.Cmd.Key, vs p1.Cmd.Value, vs p1.Cmd.Old] 81) :: (blk g13 [vi p1.Index, vi p1.Term, .slice A3 p0.Pairs.length c3, .slice A4 p0.Sessions.length c4] 47) :: Y) w) _)
                have hS2 := (⟨_, _, (Le.refl _), (St.up (St.up hst52 4 rfl) 1 rfl)⟩ : (fun w => ∃ ζ Y, Le z47 ζ ∧ Ht w0 (frz ζ :: (blk g16 [vi 0, vs []] 84) :: Y) w) _)
                refine ⟨⟨.inr (fun _ => hS0), .inl (by decide), .inr (fun _ => hS2), trivial⟩, ?_⟩
                refine Any.one 4 (by kernel_rfl) rfl rfl (One.of_ops rfl ?_)
                refine Ops.store 4 [vi y37.1.Reply.Err, vs y37.1.Reply.Value] hst52 rfl rfl rfl rfl sz84 rfl (by simp [Value.oneCell']) (by simp) (fun w53 hst53 => Ops.stop ?_)
                have hS0 := (⟨_, _, (Le.refl _), (St.up (St.up (St.up (St.up (St.up (St.up hst53 7 rfl) 7 rfl) 5 rfl) 5 rfl) 5 rfl) 5 rfl)⟩ : (fun w => ∃ ζ Y, Le z47 ζ ∧ Ht w0 (frz ζ :: (blk g43 [vi y37.1.Client, vi y37.1.Seq, vi y37.1.Reply.Err, vs y37.1.Reply.Value] 98) :: (blk g35 [.slice A36 y34.items_.length c36] 121) :: (orow 125 5 (.slice A36 y34.items_.length c36) y34.items_.length d36) :: (blk g14 [vi p1.Index, vi p1.Term, vi p1.Cmd.Op, vi p1.Cmd.Client, vi p1.Cmd.Seq, vs p1.Cmd.Key, vs p1.Cmd.Value, vs p1.Cmd.Old] 81) :: (blk g13 [vi p1.Index, vi p1.Term, .slice A3 p0.Pairs.length c3, .slice A4 p0.Sessions.length c4] 47) :: Y) w) _)
                refine ⟨⟨.inr (fun _ => hS0), .inl (by decide), .inl (by decide), trivial⟩, ?_⟩
                refine Any.done (by kernel_rfl) ?_
                obtain rfl := Option.some.inj hf
                exact Run.retV [.agg #[vi p1.Index, vi p1.Term, .slice A3 p0.Pairs.length c3, .slice A4 p0.Sessions.length c4], .agg #[vi y37.1.Reply.Err, vs y37.1.Reply.Value]] rfl ⟨⟨_, rfl, run_loadN _ Tryd.underlying47 rfl sz47 rfl (hst53.cells (i := 5) rfl 0 4)⟩, ⟨_, rfl, run_loadN _ Tryd.underlying84 rfl sz84 rfl (hst53.cells (i := 4) rfl 0 2)⟩, trivial⟩ ⟨z47, A3, c3, A4, c4, rfl, hy49_0, f3, f4, (St.forget (St.forget (St.forget (St.forget (St.forget (St.forget (St.forget hst53 7) 6) 5) 4) 3) 2) 1)⟩
              · replace hf := ifF (dec_F hc) hf
                refine Run.skip ?_
                refine Run.seq ?_
                refine Run.region ?_
                refine Ops.loadAgg _ rfl Tryd.underlying47 rfl sz47 rfl (hst49.cells (i := 7) rfl 0 4) rfl ?_
                refine Ops.ex (Ex.build [vi 12, vs []] rfl Tryd.underlying84 zr84 (pl84 Tryd.underlying84) (by kernel_rfl)) rfl rfl rfl ?_
                refine Ops.store 5 [vi p1.Index, vi p1.Term, .slice A3 p0.Pairs.length c3, .slice A4 p0.Sessions.length c4] hst49 rfl rfl rfl rfl sz47 rfl (by simp [Value.oneCell']) (by simp) (fun w54 hst54 => ?_)
                refine Ops.store 4 [vi 12, vs []] hst54 rfl rfl rfl rfl sz84 rfl (by simp [Value.oneCell']) (by simp) (fun w55 hst55 => ?_)
                refine Ops.nil ?_
                obtain rfl := Option.some.inj hf
                exact Run.retV [.agg #[vi p1.Index, vi p1.Term, .slice A3 p0.Pairs.length c3, .slice A4 p0.Sessions.length c4], .agg #[vi 12, vs []]] rfl ⟨⟨_, rfl, run_loadN _ Tryd.underlying47 rfl sz47 rfl (hst55.cells (i := 5) rfl 0 4)⟩, ⟨_, rfl, run_loadN _ Tryd.underlying84 rfl sz84 rfl (hst55.cells (i := 4) rfl 0 2)⟩, trivial⟩ ⟨z47, A3, c3, A4, c4, rfl, hy49_0, f3, f4, (St.forget (St.forget (St.forget (St.forget (St.forget (St.forget (St.forget hst55 7) 6) 5) 4) 3) 2) 1)⟩
            · replace hf := ifFb hc hf
              refine Run.skip ?_
              refine Run.seq ?_
              refine Run.region ?_
              refine Ops.loadAgg _ rfl Tryd.underlying47 rfl sz47 rfl (hst49.cells (i := 7) rfl 0 4) rfl ?_
              obtain ⟨y56, hy56, hf⟩ := bnd hf
              refine Ops.call rfl rfl Tryd.func39 (by kernel_rfl) (by kernel_rfl) rfl (go_state_pairs.walk (p0 := (⟨p1.Index, p1.Term, p0.Pairs, p0.Sessions⟩ : apiState)) (hst := hst49) (f3 := f3) (f4 := f4) (hf := hy56)) ?_
              rintro _ w56 ⟨z56, g57, A58, c58, d58, rfl, hz56, f58, hst56⟩
              refine ⟨_, rfl, ?_⟩
              replace f3 := f3.mono hz56; replace f4 := f4.mono hz56; replace f36 := f36.mono hz56
              replace hy49_0 := hy49_0.trans hz56
              replace hy49_1 := hy49_1.trans hz56
              replace hy49_2 := hy49_2.trans hz56
              replace hz49 := hz49.trans hz56
              refine Ops.ex (Ex.assign rfl) rfl rfl rfl ?_
              refine Ops.nil ?_
              refine Run.seq ?_
              refine Run.region ?_
              refine Ops.ex (Ex.move rfl) rfl rfl rfl ?_
              refine Ops.ex (Ex.fieldAddr rfl Tryd.underlying81 rfl sz79) rfl rfl rfl ?_
              refine Ops.loadAgg _ rfl Tryd.underlying79 rfl sz79 rfl (hst56.cells (i := 8) rfl 2 6) rfl ?_
              obtain ⟨y59, hy59, hf⟩ := bnd hf
              refine Ops.call rfl rfl Tryd.func40 (by kernel_rfl) (by kernel_rfl) rfl (go_state_do.walk (p0 := y56) (p1 := p1.Cmd) (hst := hst56) (f1 := f58) (hf := hy59)) ?_
              rintro _ w59 ⟨z59, A62, c62, d62, rfl, hz59, f62, hst59⟩
              refine ⟨_, rfl, ?_⟩
              replace f3 := f3.mono hz59; replace f4 := f4.mono hz59; replace f36 := f36.mono hz59
              replace hy49_0 := hy49_0.trans hz59
              replace hy49_1 := hy49_1.trans hz59
              replace hy49_2 := hy49_2.trans hz59
              replace hz49 := hz49.trans hz59
              refine Ops.allocF [vi 0, vs []] hst59 zr84 rfl rfl (fun g63 w63 hst63 => ?_)
              refine Ops.store 1 [vi y59.1.Err, vs y59.1.Value] hst63 rfl rfl rfl rfl sz84 rfl (by simp [Value.oneCell']) (by simp) (fun w64 hst64 => ?_)
              refine Ops.nil ?_
              refine Run.seq ?_
              refine Run.region ?_
              refine Ops.ex (Ex.move rfl) rfl rfl rfl ?_
              obtain ⟨y65, hy65, hf⟩ := bnd hf
              refine Ops.call rfl rfl Tryd.func41 (by kernel_rfl) (by kernel_rfl) rfl (go_state_rows.walk (p0 := y59.2) (hst := (St.up (St.up (St.up (St.up (St.up (St.up (St.up (St.up (St.up (St.up (St.up hst64 10 rfl) 10 rfl) 10 rfl) 10 rfl) 10 rfl) 10 rfl) 10 rfl) 8 rfl) 10 rfl) 10 rfl) 10 rfl)) (f1 := f62) (hf := hy65)) ?_
              rintro _ w65 ⟨z65, A66, c66, rfl, hz65, f66, hst65⟩
              refine ⟨_, rfl, ?_⟩
              replace f3 := f3.mono hz65; replace f4 := f4.mono hz65; replace f62 := f62.mono hz65; replace f36 := f36.mono hz65
              replace hy49_0 := hy49_0.trans hz65
              replace hy49_1 := hy49_1.trans hz65
              replace hy49_2 := hy49_2.trans hz65
              replace hz49 := hz49.trans hz65
              refine Ops.ex (Ex.fieldAddr rfl Tryd.underlying47 rfl sz44) rfl rfl rfl ?_
              refine Ops.store 10 [.slice A66 y65.length c66] hst65 rfl rfl rfl rfl sz44 rfl (by simp [Value.oneCell']) (by simp) (fun w67 hst67 => ?_)
              refine Ops.nil ?_
              refine Run.seq ?_
              refine Run.region ?_
              refine Ops.ex (Ex.move rfl) rfl rfl rfl ?_
              refine Ops.ex (Ex.fieldAddr rfl Tryd.underlying81 rfl sz79) rfl rfl rfl ?_
              refine Ops.ex (Ex.fieldAddr rfl Tryd.underlying79 rfl sz3) rfl rfl rfl ?_
              refine Ops.load rfl Tryd.underlying3 rfl (hst67.cell (i := 9) rfl rfl) rfl ?_
              refine Ops.ex (Ex.fieldAddr rfl Tryd.underlying81 rfl sz79) rfl rfl rfl ?_
              refine Ops.ex (Ex.fieldAddr rfl Tryd.underlying79 rfl sz3) rfl rfl rfl ?_
              refine Ops.load rfl Tryd.underlying3 rfl (hst67.cell (i := 9) rfl rfl) rfl ?_
              refine Ops.ex (Ex.fieldAddr rfl Tryd.underlying81 rfl sz79) rfl rfl rfl ?_
              refine Ops.ex (Ex.fieldAddr rfl Tryd.underlying79 rfl sz3) rfl rfl rfl ?_
              refine Ops.load rfl Tryd.underlying3 rfl (hst67.cell (i := 9) rfl rfl) rfl ?_
              refine Ops.loadAgg _ rfl Tryd.underlying84 rfl sz84 rfl (hst67.cells (i := 3) rfl 0 2) rfl ?_
              refine Ops.ex (Ex.build [vi p1.Cmd.Client, vi p1.Cmd.Seq, vi y59.1.Err, vs y59.1.Value] rfl Tryd.underlying98 zr98 (pl98 Tryd.underlying98) (by kernel_rfl)) rfl rfl rfl ?_
              obtain ⟨y68, hy68, hf⟩ := bnd hf
              refine Ops.call rfl rfl Tryd.func42 (by kernel_rfl) (by kernel_rfl) rfl (go_sorted_Map_int_api_Session_Put.walk (p0 := y34) (p1 := p1.Cmd.Client) (p2 := (⟨p1.Cmd.Client, p1.Cmd.Seq, ⟨y59.1.Err, y59.1.Value⟩⟩ : apiSession)) (hst := (St.up (St.up (St.up (St.up (St.up (St.up (St.up (St.up (St.up (St.up (St.up hst67 10 rfl) 10 rfl) 10 rfl) 10 rfl) 8 rfl) 8 rfl) 8 rfl) 8 rfl) 10 rfl) 10 rfl) 10 rfl)) (f1 := f36) (hf := hy68)) ?_
              rintro _ w68 ⟨z68, A70, c70, d70, rfl, hz68, f70, hst68⟩
              refine ⟨_, rfl, ?_⟩
              replace f3 := f3.mono hz68; replace f4 := f4.mono hz68; replace f66 := f66.mono hz68; replace f62 := f62.mono hz68
              replace hy49_0 := hy49_0.trans hz68
              replace hy49_1 := hy49_1.trans hz68
              replace hy49_2 := hy49_2.trans hz68
              replace hz49 := hz49.trans hz68
              refine Ops.nil ?_
              refine Run.seq ?_
              refine Run.region ?_
              refine Ops.ex (Ex.fieldAddr rfl Tryd.underlying47 rfl sz45) rfl rfl rfl ?_
              refine Ops.store 10 [.slice none 0 0] hst68 rfl rfl rfl rfl sz45 rfl (by simp [Value.oneCell']) (by simp) (fun w71 hst71 => ?_)
              refine Ops.nil ?_
              refine Run.seq ?_
              refine Run.seq ?_
              refine Run.region ?_
              refine Ops.ex (Ex.move rfl) rfl rfl rfl ?_
              obtain ⟨y72, hy72, hf⟩ := bnd hf
              refine Ops.call rfl rfl Tryd.func43 (by kernel_rfl) (by kernel_rfl) rfl (go_sorted_Map_int_api_Session_All.walk (p0 := y68.2) (hst := hst71) (f1 := f70) (hf := hy72)) ?_
              rintro _ w72 ⟨z72, g73, rfl, hz72, hst72⟩
              refine ⟨_, rfl, ?_⟩
              replace f3 := f3.mono hz72; replace f4 := f4.mono hz72; replace f66 := f66.mono hz72; replace f70 := f70.mono hz72; replace f62 := f62.mono hz72
              replace hy49_0 := hy49_0.trans hz72
              replace hy49_1 := hy49_1.trans hz72
              replace hy49_2 := hy49_2.trans hz72
              replace hz49 := hz49.trans hz72
              refine Ops.nil ?_
              refine Run.block ?_
              have hm74 := Le.refl z72
              have hst93 := hst72.row0 98 4
              have hst95 := hst72.row0 98 4
              obtain ⟨⟨ys75, yj75⟩, hy75, hf⟩ := bnd hf
              try dsimp only at hf
              refine Run.rangeZ (fun (s_ : List apiSession) (z91 : Zp) (Hs_ : List Res) => ∃ (l92 : List apiSession) (A92 : Option Addr) (c92 : Nat) (d92 : List Value), l92 = s_ ∧ Le z72 z91 ∧ Le z0 z91 ∧ Le z17 z91 ∧ Le z23 z91 ∧ Le z37 z91 ∧ Cs tapiSession z91 d92 l92 ∧ Hs_ = [orow 98 4 (.slice A92 l92.length c92) l92.length d92, blk g57 [.slice A62 y59.2.items_.length c62] 128, orow 153 2 (.slice A62 y59.2.items_.length c62) y59.2.items_.length d62, blk g63 [vi y59.1.Err, vs y59.1.Value] 84, blk g43 [vi y37.1.Client, vi y37.1.Seq, vi y37.1.Reply.Err, vs y37.1.Reply.Value] 98, blk g16 [vi 0, vs []] 84, blk g15 [vi 0, vi 0, .slice none 0 0, .slice none 0 0] 47, blk g14 [vi p1.Index, vi p1.Term, vi p1.Cmd.Op, vi p1.Cmd.Client, vi p1.Cmd.Seq, vs p1.Cmd.Key, vs p1.Cmd.Value, vs p1.Cmd.Old] 81, blk g13 [vi p1.Index, vi p1.Term, .slice A66 y65.length c66, .slice A92 l92.length c92] 47]) (fun z a us_ => us_ = [vi a.1, .agg #[vi a.2.Client, vi a.2.Seq, vi a.2.Reply.Err, vs a.2.Reply.Value]]) (go_state_Apply.z1) (fun _ => Code.skip) rfl rfl Tryd.func59 (by kernel_rfl) (by kernel_rfl) ?_ rfl (s0 := []) (s1 := ys75) (j1 := yj75) (Hs := [orow 98 4 (.slice none 0 0) 0 [], blk g57 [.slice A62 y59.2.items_.length c62] 128, orow 153 2 (.slice A62 y59.2.items_.length c62) y59.2.items_.length d62, blk g63 [vi y59.1.Err, vs y59.1.Value] 84, blk g43 [vi y37.1.Client, vi y37.1.Seq, vi y37.1.Reply.Err, vs y37.1.Reply.Value] 98, blk g16 [vi 0, vs []] 84, blk g15 [vi 0, vi 0, .slice none 0 0, .slice none 0 0] 47, blk g14 [vi p1.Index, vi p1.Term, vi p1.Cmd.Op, vi p1.Cmd.Client, vi p1.Cmd.Seq, vs p1.Cmd.Key, vs p1.Cmd.Value, vs p1.Cmd.Old] 81, blk g13 [vi p1.Index, vi p1.Term, .slice A66 y65.length c66, .slice none 0 0] 47]) (X := (blk g73 [.pointer (some ⟨g35, 0, none⟩)] 95 :: blk g35 [.slice A70 y68.2.items_.length c70] 121 :: orow 125 5 (.slice A70 y68.2.items_.length c70) y68.2.items_.length d70 :: X)) ⟨[], none, 0, [], rfl, hm74, hy49_0, hy49_1, hy49_2, hz49, (Cs.nil _ _), rfl⟩ (St.up (St.up (St.up (St.up (St.up (St.up (St.up (St.up (St.up (St.up (St.up (St.up (St.up hst95 3 rfl) 3 rfl) 4 rfl) 12 rfl) 12 rfl) 12 rfl) 12 rfl) 12 rfl) 12 rfl) 12 rfl) 12 rfl) 12 rfl) 12 rfl) ?_ ?_ ?_ ?_
              · rintro _ _ _ rfl
                rfl
              · intro l_ J_ W_ Hs_ hY_ hJ_ hst_
                refine (go_sorted_Map_int_api_Session_All_c1.walk (yield := yw (go_state_Apply.z1)) (s0 := ([], 0)) (q0 := y68.2) (hst := St.swp (M := Hs_) (Hs := [blk g73 [.pointer (some ⟨g35, 0, none⟩)] 95, blk g35 [.slice A70 y68.2.items_.length c70] 121, orow 125 5 (.slice A70 y68.2.items_.length c70) y68.2.items_.length d70]) (X := X) hst_) (Hs0 := Hs_) (X := X) (hY := hY_) (hJ0 := hJ_) (f1 := f70) (hf := hy75)).mono ?_
                rintro _ W'_ ⟨z'_, Hs97, rfl, hl_, hJ97, hst'_⟩
                exact ⟨⟨_, rfl⟩, z'_, _, hl_, hJ97, St.swp (M := [blk g73 [.pointer (some ⟨g35, 0, none⟩)] 95, blk g35 [.slice A70 y68.2.items_.length c70] 121, orow 125 5 (.slice A70 y68.2.items_.length c70) y68.2.items_.length d70]) (Hs := Hs97) hst'_⟩
              · rintro s_ ar75 vs_ z1_ zr75 Hs_ Y_ l_ W_ rr_ ⟨l92, A92, c92, d92, rfl, hm75_0, hm75_1, hm75_2, hm75_3, hm75_4, f92, rfl⟩ hz12 hA_ hf hst75
                obtain ⟨a75_0, a75_1⟩ := ar75
                obtain rfl := hA_
                replace f3 := f3.mono (hm75_0.trans hz12); replace f4 := f4.mono (hm75_0.trans hz12); replace f66 := f66.mono (hm75_0.trans hz12); replace f62 := f62.mono (hm75_0.trans hz12)
                replace f92 := f92.mono hz12
                replace hm75_0 := hm75_0.trans hz12; replace hm75_1 := hm75_1.trans hz12; replace hm75_2 := hm75_2.trans hz12; replace hm75_3 := hm75_3.trans hz12; replace hm75_4 := hm75_4.trans hz12
                unfold go_state_Apply.z1 at hf
                try dsimp only at hf
                have hzz75 := Le.refl zr75
                replace hst75 : Ht w0 (frz zr75 :: (orow 98 4 (.slice A92 l92.length c92) l92.length d92) :: (blk g57 [.slice A62 y59.2.items_.length c62] 128) :: (orow 153 2 (.slice A62 y59.2.items_.length c62) y59.2.items_.length d62) :: (blk g63 [vi y59.1.Err, vs y59.1.Value] 84) :: (blk g43 [vi y37.1.Client, vi y37.1.Seq, vi y37.1.Reply.Err, vs y37.1.Reply.Value] 98) :: (blk g16 [vi 0, vs []] 84) :: (blk g15 [vi 0, vi 0, .slice none 0 0, .slice none 0 0] 47) :: (blk g14 [vi p1.Index, vi p1.Term, vi p1.Cmd.Op, vi p1.Cmd.Client, vi p1.Cmd.Seq, vs p1.Cmd.Key, vs p1.Cmd.Value, vs p1.Cmd.Old] 81) :: (blk g13 [vi p1.Index, vi p1.Term, .slice A66 y65.length c66, .slice A92 l92.length c92] 47) :: Y_) _ := hst75
                refine Run.region ?_
                refine Ops.allocF [vi 0, vi 0, vi 0, vs []] hst75 zr98 rfl rfl (fun g98 w98 hst98 => ?_)
                refine Ops.store 1 [vi a75_1.Client, vi a75_1.Seq, vi a75_1.Reply.Err, vs a75_1.Reply.Value] hst98 rfl rfl rfl rfl sz98 rfl (by simp [Value.oneCell']) (by simp) (fun w99 hst99 => ?_)
                refine Ops.nil ?_
                refine Run.stop ⟨[blk g98 [vi a75_1.Client, vi a75_1.Seq, vi a75_1.Reply.Err, vs a75_1.Reply.Value] 98, orow 98 4 (.slice A92 l92.length c92) l92.length d92, blk g57 [.slice A62 y59.2.items_.length c62] 128, orow 153 2 (.slice A62 y59.2.items_.length c62) y59.2.items_.length d62, blk g63 [vi y59.1.Err, vs y59.1.Value] 84, blk g43 [vi y37.1.Client, vi y37.1.Seq, vi y37.1.Reply.Err, vs y37.1.Reply.Value] 98, blk g16 [vi 0, vs []] 84, blk g15 [vi 0, vi 0, .slice none 0 0, .slice none 0 0] 47, blk g14 [vi p1.Index, vi p1.Term, vi p1.Cmd.Op, vi p1.Cmd.Client, vi p1.Cmd.Seq, vs p1.Cmd.Key, vs p1.Cmd.Value, vs p1.Cmd.Old] 81, blk g13 [vi p1.Index, vi p1.Term, .slice A66 y65.length c66, .slice A92 l92.length c92] 47], hst99, fun Y75 W100 hst100 => ?_⟩
                replace hst100 : Ht w0 (frz zr75 :: (blk g98 [vi a75_1.Client, vi a75_1.Seq, vi a75_1.Reply.Err, vs a75_1.Reply.Value] 98) :: (orow 98 4 (.slice A92 l92.length c92) l92.length d92) :: (blk g57 [.slice A62 y59.2.items_.length c62] 128) :: (orow 153 2 (.slice A62 y59.2.items_.length c62) y59.2.items_.length d62) :: (blk g63 [vi y59.1.Err, vs y59.1.Value] 84) :: (blk g43 [vi y37.1.Client, vi y37.1.Seq, vi y37.1.Reply.Err, vs y37.1.Reply.Value] 98) :: (blk g16 [vi 0, vs []] 84) :: (blk g15 [vi 0, vi 0, .slice none 0 0, .slice none 0 0] 47) :: (blk g14 [vi p1.Index, vi p1.Term, vi p1.Cmd.Op, vi p1.Cmd.Client, vi p1.Cmd.Seq, vs p1.Cmd.Key, vs p1.Cmd.Value, vs p1.Cmd.Old] 81) :: (blk g13 [vi p1.Index, vi p1.Term, .slice A66 y65.length c66, .slice A92 l92.length c92] 47) :: Y75) _ := hst100
                refine Run.block ?_
                refine Run.region ?_
                refine Ops.ex (Ex.fieldAddr rfl Tryd.underlying47 rfl sz45) rfl rfl rfl ?_
                refine Ops.load rfl Tryd.underlying45 rfl (hst100.cell (i := 10) rfl rfl) rfl ?_
                refine Ops.loadAgg _ rfl Tryd.underlying98 rfl sz98 rfl (hst100.cells (i := 1) rfl 0 4) rfl ?_
                refine Ops.sliceF [vi a75_1.Client, vi a75_1.Seq, vi a75_1.Reply.Err, vs a75_1.Reply.Value] hst100 rfl Tryd.underlying45 sz98 zr98 rfl rfl (by kernel_rfl) rfl (by simp [Value.oneCell']) rfl (fun A101 w101 hst101 => ?_)
                have f101 : Cs tapiSession zr75 [vi a75_1.Client, vi a75_1.Seq, vi a75_1.Reply.Err, vs a75_1.Reply.Value] [a75_1] := (Cs.cons (c := [vi a75_1.Client, vi a75_1.Seq, vi a75_1.Reply.Err, vs a75_1.Reply.Value]) rfl (Cs.nil _ _))
                obtain ⟨l102, hy102, hf⟩ := bnd hf
                refine Ops.app 3 hst101 rfl f92 rfl (own_slh f101 rfl (hst101.get (i := 1) rfl)) rfl hy102 rfl rfl rfl rfl Tryd.underlying45 inf98 rfl (by decide) (by decide) rfl (fun A102 c102 d102 w102 f102 hst102 => ?_)
                refine Ops.ex (Ex.fieldAddr rfl Tryd.underlying47 rfl sz45) rfl rfl rfl ?_
                refine Ops.store 11 [.slice A102 l102.length c102] hst102 rfl rfl rfl rfl sz45 rfl (by simp [Value.oneCell']) (by simp) (fun w103 hst103 => ?_)
                refine Ops.nil ?_
                refine Run.endBlk ?_
                obtain rfl := Option.some.inj hf
                exact Run.endZ rfl rfl (Le.refl _) ⟨l102, A102, c102, d102, rfl, hm75_0, hm75_1, hm75_2, hm75_3, hm75_4, f102, rfl⟩ (St.forget (St.forget hst103 2) 1)
              · rintro z1_ zd75 Hs_ D75 W_ h0 ⟨l92, A92, c92, d92, rfl, hm75_0, hm75_1, hm75_2, hm75_3, hm75_4, f92, rfl⟩ hz12 hzd hst75
                replace f3 := f3.mono (hm75_0.trans hz12); replace f4 := f4.mono (hm75_0.trans hz12); replace f66 := f66.mono (hm75_0.trans hz12); replace f62 := f62.mono (hm75_0.trans hz12)
                replace f92 := f92.mono hz12
                replace hm75_0 := hm75_0.trans hz12; replace hm75_1 := hm75_1.trans hz12; replace hm75_2 := hm75_2.trans hz12; replace hm75_3 := hm75_3.trans hz12; replace hm75_4 := hm75_4.trans hz12
                replace f70 := f70.mono hzd
                have hst75' : Ht w0 (frz zd75 :: (orow 98 4 (.slice A92 l92.length c92) l92.length d92) :: (blk g57 [.slice A62 y59.2.items_.length c62] 128) :: (orow 153 2 (.slice A62 y59.2.items_.length c62) y59.2.items_.length d62) :: (blk g63 [vi y59.1.Err, vs y59.1.Value] 84) :: (blk g43 [vi y37.1.Client, vi y37.1.Seq, vi y37.1.Reply.Err, vs y37.1.Reply.Value] 98) :: (blk g16 [vi 0, vs []] 84) :: (blk g15 [vi 0, vi 0, .slice none 0 0, .slice none 0 0] 47) :: (blk g14 [vi p1.Index, vi p1.Term, vi p1.Cmd.Op, vi p1.Cmd.Client, vi p1.Cmd.Seq, vs p1.Cmd.Key, vs p1.Cmd.Value, vs p1.Cmd.Old] 81) :: (blk g13 [vi p1.Index, vi p1.Term, .slice A66 y65.length c66, .slice A92 l92.length c92] 47) :: ob D75 (.deferred (some [])) :: (blk g73 [.pointer (some ⟨g35, 0, none⟩)] 95) :: (blk g35 [.slice A70 y68.2.items_.length c70] 121) :: (orow 125 5 (.slice A70 y68.2.items_.length c70) y68.2.items_.length d70) :: X) _ := hst75
                try dsimp only at hf
                replace hf := ifT h0 hf
                refine Run.endBlk ?_
                refine Run.seq ?_
                have hm105 := Le.refl zd75
                refine Run.drawH [([], fun w => ∃ ζ Y, Le zd75 ζ ∧ Ht w0 (frz ζ :: (orow 98 4 (.slice A92 l92.length c92) l92.length d92) :: (blk g57 [.slice A62 y59.2.items_.length c62] 128) :: (orow 153 2 (.slice A62 y59.2.items_.length c62) y59.2.items_.length d62) :: (blk g63 [vi y59.1.Err, vs y59.1.Value] 84) :: (blk g43 [vi y37.1.Client, vi y37.1.Seq, vi y37.1.Reply.Err, vs y37.1.Reply.Value] 98) :: (blk g14 [vi p1.Index, vi p1.Term, vi p1.Cmd.Op, vi p1.Cmd.Client, vi p1.Cmd.Seq, vs p1.Cmd.Key, vs p1.Cmd.Value, vs p1.Cmd.Old] 81) :: (blk g13 [vi p1.Index, vi p1.Term, .slice A66 y65.length c66, .slice A92 l92.length c92] 47) :: (blk g73 [.pointer (some ⟨g35, 0, none⟩)] 95) :: (blk g35 [.slice A70 y68.2.items_.length c70] 121) :: (orow 125 5 (.slice A70 y68.2.items_.length c70) y68.2.items_.length d70) :: Y) w), ([2, 3], fun w => ∃ ζ Y, Le zd75 ζ ∧ Ht w0 (frz ζ :: (blk g15 [vi 0, vi 0, .slice none 0 0, .slice none 0 0] 47) :: Y) w), ([3], fun w => ∃ ζ Y, Le zd75 ζ ∧ Ht w0 (frz ζ :: (blk g16 [vi 0, vs []] 84) :: Y) w)] (by kernel_rfl) hst75' (fun w104 hst104 => ?_)
                have hS0 := (⟨_, _, (Le.refl _), (St.up (St.up (St.up (St.up (St.up (St.up (St.up (St.up (St.up (St.up (St.up hst104 13 rfl) 13 rfl) 13 rfl) 12 rfl) 12 rfl) 10 rfl) 10 rfl) 10 rfl) 10 rfl) 10 rfl) 10 rfl)⟩ : (fun w => ∃ ζ Y, Le zd75 ζ ∧ Ht w0 (frz ζ :: (orow 98 4 (.slice A92 l92.length c92) l92.length d92) :: (blk g57 [.slice A62 y59.2.items_.length c62] 128) :: (orow 153 2 (.slice A62 y59.2.items_.length c62) y59.2.items_.length d62) :: (blk g63 [vi y59.1.Err, vs y59.1.Value] 84) :: (blk g43 [vi y37.1.Client, vi y37.1.Seq, vi y37.1.Reply.Err, vs y37.1.Reply.Value] 98) :: (blk g14 [vi p1.Index, vi p1.Term, vi p1.Cmd.Op, vi p1.Cmd.Client, vi p1.Cmd.Seq, vs p1.Cmd.Key, vs p1.Cmd.Value, vs p1.Cmd.Old] 81) :: (blk g13 [vi p1.Index, vi p1.Term, .slice A66 y65.length c66, .slice A92 l92.length c92] 47) :: (blk g73 [.pointer (some ⟨g35, 0, none⟩)] 95) :: (blk g35 [.slice A70 y68.2.items_.length c70] 121) :: (orow 125 5 (.slice A70 y68.2.items_.length c70) y68.2.items_.length d70) :: Y) w) _)
                have hS1 := (⟨_, _, (Le.refl _), (St.up (St.up hst104 7 rfl) 1 rfl)⟩ : (fun w => ∃ ζ Y, Le zd75 ζ ∧ Ht w0 (frz ζ :: (blk g15 [vi 0, vi 0, .slice none 0 0, .slice none 0 0] 47) :: Y) w) _)
                have hS2 := (⟨_, _, (Le.refl _), (St.up (St.up hst104 6 rfl) 1 rfl)⟩ : (fun w => ∃ ζ Y, Le zd75 ζ ∧ Ht w0 (frz ζ :: (blk g16 [vi 0, vs []] 84) :: Y) w) _)
                refine Any.take 0 0 rfl rfl rfl rfl rfl (by kernel_rfl) (fun _ _ _ _ _ h => h) (ExS.loadAgg [vi p1.Index, vi p1.Term, .slice A66 y65.length c66, .slice A92 l92.length c92] rfl Tryd.underlying47 rfl sz47 rfl (fun w hS => by obtain ⟨_, _, _, hs⟩ := hS; exact hs.cells (i := 7) rfl 0 4)) hS0 ?_
                refine Any.take 0 1 rfl rfl rfl rfl rfl (by kernel_rfl) (fun _ _ _ _ _ h => h) (ExS.loadAgg [vi y59.1.Err, vs y59.1.Value] rfl Tryd.underlying84 rfl sz84 rfl (fun w hS => by obtain ⟨_, _, _, hs⟩ := hS; exact hs.cells (i := 4) rfl 0 2)) hS0 ?_
                refine Any.one 2 (by kernel_rfl) rfl rfl (One.of_ops rfl ?_)
                refine Ops.store 7 [vi p1.Index, vi p1.Term, .slice A66 y65.length c66, .slice A92 l92.length c92] hst104 rfl rfl rfl rfl sz47 rfl (by simp [Value.oneCell']) (by simp) (fun w106 hst106 => Ops.stop ?_)
                have hS0 := (⟨_, _, (Le.refl _), (St.up (St.up (St.up (St.up (St.up (St.up (St.up (St.up (St.up (St.up (St.up hst106 13 rfl) 13 rfl) 13 rfl) 12 rfl) 12 rfl) 10 rfl) 10 rfl) 10 rfl) 10 rfl) 10 rfl) 10 rfl)⟩ : (fun w => ∃ ζ Y, Le zd75 ζ ∧ Ht w0 (frz ζ :: (orow 98 4 (.slice A92 l92.length c92) l92.length d92) :: (blk g57 [.slice A62 y59.2.items_.length c62] 128) :: (orow 153 2 (.slice A62 y59.2.items_.length c62) y59.2.items_.length d62) :: (blk g63 [vi y59.1.Err, vs y59.1.Value] 84) :: (blk g43 [vi y37.1.Client, vi y37.1.Seq, vi y37.1.Reply.Err, vs y37.1.Reply.Value] 98) :: (blk g14 [vi p1.Index, vi p1.Term, vi p1.Cmd.Op, vi p1.Cmd.Client, vi p1.Cmd.Seq, vs p1.Cmd.Key, vs p1.Cmd.Value, vs p1.Cmd.Old] 81) :: (blk g13 [vi p1.Index, vi p1.Term, .slice A66 y65.length c66, .slice A92 l92.length c92] 47) :: (blk g73 [.pointer (some ⟨g35, 0, none⟩)] 95) :: (blk g35 [.slice A70 y68.2.items_.length c70] 121) :: (orow 125 5 (.slice A70 y68.2.items_.length c70) y68.2.items_.length d70) :: Y) w) _)
                have hS2 := (⟨_, _, (Le.refl _), (St.up (St.up hst106 6 rfl) 1 rfl)⟩ : (fun w => ∃ ζ Y, Le zd75 ζ ∧ Ht w0 (frz ζ :: (blk g16 [vi 0, vs []] 84) :: Y) w) _)
                refine ⟨⟨.inr (fun _ => hS0), .inl (by decide), .inr (fun _ => hS2), trivial⟩, ?_⟩
                refine Any.one 3 (by kernel_rfl) rfl rfl (One.of_ops rfl ?_)
                refine Ops.store 6 [vi y59.1.Err, vs y59.1.Value] hst106 rfl rfl rfl rfl sz84 rfl (by simp [Value.oneCell']) (by simp) (fun w107 hst107 => Ops.stop ?_)
                have hS0 := (⟨_, _, (Le.refl _), (St.up (St.up (St.up (St.up (St.up (St.up (St.up (St.up (St.up (St.up (St.up hst107 13 rfl) 13 rfl) 13 rfl) 12 rfl) 12 rfl) 10 rfl) 10 rfl) 10 rfl) 10 rfl) 10 rfl) 10 rfl)⟩ : (fun w => ∃ ζ Y, Le zd75 ζ ∧ Ht w0 (frz ζ :: (orow 98 4 (.slice A92 l92.length c92) l92.length d92) :: (blk g57 [.slice A62 y59.2.items_.length c62] 128) :: (orow 153 2 (.slice A62 y59.2.items_.length c62) y59.2.items_.length d62) :: (blk g63 [vi y59.1.Err, vs y59.1.Value] 84) :: (blk g43 [vi y37.1.Client, vi y37.1.Seq, vi y37.1.Reply.Err, vs y37.1.Reply.Value] 98) :: (blk g14 [vi p1.Index, vi p1.Term, vi p1.Cmd.Op, vi p1.Cmd.Client, vi p1.Cmd.Seq, vs p1.Cmd.Key, vs p1.Cmd.Value, vs p1.Cmd.Old] 81) :: (blk g13 [vi p1.Index, vi p1.Term, .slice A66 y65.length c66, .slice A92 l92.length c92] 47) :: (blk g73 [.pointer (some ⟨g35, 0, none⟩)] 95) :: (blk g35 [.slice A70 y68.2.items_.length c70] 121) :: (orow 125 5 (.slice A70 y68.2.items_.length c70) y68.2.items_.length d70) :: Y) w) _)
                refine ⟨⟨.inr (fun _ => hS0), .inl (by decide), .inl (by decide), trivial⟩, ?_⟩
                refine Any.done (by kernel_rfl) ?_
                obtain ⟨hD108, hst108⟩ := St.shutD hst107 10 rfl
                have hst108 : Ht w0 (frz zd75 :: (orow 98 4 (.slice A92 l92.length c92) l92.length d92) :: (blk g57 [.slice A62 y59.2.items_.length c62] 128) :: (orow 153 2 (.slice A62 y59.2.items_.length c62) y59.2.items_.length d62) :: (blk g63 [vi y59.1.Err, vs y59.1.Value] 84) :: (blk g43 [vi y37.1.Client, vi y37.1.Seq, vi y37.1.Reply.Err, vs y37.1.Reply.Value] 98) :: (blk g16 [vi y59.1.Err, vs y59.1.Value] 84) :: (blk g15 [vi p1.Index, vi p1.Term, .slice A66 y65.length c66, .slice A92 l92.length c92] 47) :: (blk g14 [vi p1.Index, vi p1.Term, vi p1.Cmd.Op, vi p1.Cmd.Client, vi p1.Cmd.Seq, vs p1.Cmd.Key, vs p1.Cmd.Value, vs p1.Cmd.Old] 81) :: (blk g13 [vi p1.Index, vi p1.Term, .slice A66 y65.length c66, .slice A92 l92.length c92] 47) :: ob D75 (.deferred none) :: (blk g73 [.pointer (some ⟨g35, 0, none⟩)] 95) :: (blk g35 [.slice A70 y68.2.items_.length c70] 121) :: (orow 125 5 (.slice A70 y68.2.items_.length c70) y68.2.items_.length d70) :: X) _ := hst108
                obtain ⟨z109, hz109, f109, hst109⟩ := St.freeze (τ := tapiSession) (xs := l92) hst108 f92 rfl
                replace f3 := f3.mono hz109; replace f4 := f4.mono hz109; replace f66 := f66.mono hz109; replace f62 := f62.mono hz109; replace f70 := f70.mono hz109
                replace hm75_0 := hm75_0.trans hz109
                replace hm75_1 := hm75_1.trans hz109
                replace hm75_2 := hm75_2.trans hz109
                replace hm75_3 := hm75_3.trans hz109
                replace hm75_4 := hm75_4.trans hz109
                replace hm105 := hm105.trans hz109
                obtain rfl := Option.some.inj hf
                exact Run.retW [.agg #[vi p1.Index, vi p1.Term, .slice A66 y65.length c66, .slice A92 l92.length c92], .agg #[vi y59.1.Err, vs y59.1.Value]] (Shut.cons hD108 (Shut.nil _)) ⟨⟨_, rfl, run_loadN _ Tryd.underlying47 rfl sz47 rfl (hst109.cells (i := 6) rfl 0 4)⟩, ⟨_, rfl, run_loadN _ Tryd.underlying84 rfl sz84 rfl (hst109.cells (i := 5) rfl 0 2)⟩, trivial⟩ ⟨z109, A66, c66, A92, c92, rfl, hm75_1, f66, f109, (St.forget (St.forget (St.forget (St.forget (St.forget (St.forget (St.forget (St.forget (St.forget (St.forget (St.forget (St.forget hst109 12) 11) 10) 9) 8) 7) 6) 5) 4) 3) 2) 1)⟩
              · rintro z1_ zd75 Hs_ D75 W_ h0 ⟨l92, A92, c92, d92, rfl, hm75_0, hm75_1, hm75_2, hm75_3, hm75_4, f92, rfl⟩ hz12 hzd hst75
                replace f3 := f3.mono (hm75_0.trans hz12); replace f4 := f4.mono (hm75_0.trans hz12); replace f66 := f66.mono (hm75_0.trans hz12); replace f62 := f62.mono (hm75_0.trans hz12)
                replace f92 := f92.mono hz12
                replace hm75_0 := hm75_0.trans hz12; replace hm75_1 := hm75_1.trans hz12; replace hm75_2 := hm75_2.trans hz12; replace hm75_3 := hm75_3.trans hz12; replace hm75_4 := hm75_4.trans hz12
                replace f70 := f70.mono hzd
                have hst75' : Ht w0 (frz zd75 :: (orow 98 4 (.slice A92 l92.length c92) l92.length d92) :: (blk g57 [.slice A62 y59.2.items_.length c62] 128) :: (orow 153 2 (.slice A62 y59.2.items_.length c62) y59.2.items_.length d62) :: (blk g63 [vi y59.1.Err, vs y59.1.Value] 84) :: (blk g43 [vi y37.1.Client, vi y37.1.Seq, vi y37.1.Reply.Err, vs y37.1.Reply.Value] 98) :: (blk g16 [vi 0, vs []] 84) :: (blk g15 [vi 0, vi 0, .slice none 0 0, .slice none 0 0] 47) :: (blk g14 [vi p1.Index, vi p1.Term, vi p1.Cmd.Op, vi p1.Cmd.Client, vi p1.Cmd.Seq, vs p1.Cmd.Key, vs p1.Cmd.Value, vs p1.Cmd.Old] 81) :: (blk g13 [vi p1.Index, vi p1.Term, .slice A66 y65.length c66, .slice A92 l92.length c92] 47) :: ob D75 (.deferred (some [])) :: (blk g73 [.pointer (some ⟨g35, 0, none⟩)] 95) :: (blk g35 [.slice A70 y68.2.items_.length c70] 121) :: (orow 125 5 (.slice A70 y68.2.items_.length c70) y68.2.items_.length d70) :: X) _ := hst75
                try dsimp only at hf
                replace hf := ifF h0 hf
                cases hf
def go_state_Fold.b1 (i8 : Nat) (a8 : apiEntry) : (Int × Int × List apiPair × List apiSession) → (Int × Int × List apiPair × List apiSession → Option apiState) → Option apiState :=
  fun (x63, x64, l65, l66) nxb8 => (go_state_Apply (⟨x63, x64, l65, l66⟩ : apiState) a8).bind fun y79 => nxb8 (y79.1.Index, y79.1.Term, y79.1.Pairs, y79.1.Sessions)
def go_state_Fold (p0 : apiState) (p1 : List apiEntry) : Option apiState :=
  forL (go_state_Fold.b1) (fun (x63, x64, l65, l66) => some (⟨x63, x64, l65, l66⟩ : apiState)) 0 p1 (p0.Index, p0.Term, p0.Pairs, p0.Sessions)
set_option maxRecDepth 100000 in
set_option maxHeartbeats 4000000 in
theorem go_state_Fold.walk {w0 w : World} {X : List Res} {z0 : Zp} {p0 : apiState} {A3 : Option Addr} {c3 : Nat} {A4 : Option Addr} {c4 : Nat} {p1 : List apiEntry} {A5 : Option Addr} {c5 : Nat} {r : apiState} (hst : Ht w0 (frz z0 :: X) w) (f3 : Sl tapiPair z0 A3 c3 p0.Pairs) (f4 : Sl tapiSession z0 A4 c4 p0.Sessions) (f5 : Sl tapiEntry z0 A5 c5 p1) (hf : go_state_Fold p0 p1 = some r) :
    Calls Tryd.prog 22 #[.agg #[vi p0.Index, vi p0.Term, .slice A3 p0.Pairs.length c3, .slice A4 p0.Sessions.length c4], .slice A5 p1.length c5] w fun e w' => ∃ (z' : Zp) (A9003 : Option Addr) (c9003 : Nat) (A9004 : Option Addr) (c9004 : Nat), e = .returned (.agg #[vi r.Index, vi r.Term, .slice A9003 r.Pairs.length c9003, .slice A9004 r.Sessions.length c9004]) ∧ Le z0 z' ∧ Sl tapiPair z' A9003 c9003 r.Pairs ∧ Sl tapiSession z' A9004 c9004 r.Sessions ∧ Ht w0 (frz z' :: X) w' := by
  refine calls_np Tryd.func22 rfl rfl ?_
  have hle0 := Le.refl z0
  unfold go_state_Fold at hf
  refine Run.seq ?_
  refine Run.region ?_
  refine Ops.boxF [vi p0.Index, vi p0.Term, .slice A3 p0.Pairs.length c3, .slice A4 p0.Sessions.length c4] hst rfl rfl rfl (fun g6 w6 hst6 => ?_)
  refine Ops.allocF [vi 0, vi 0, .slice none 0 0, .slice none 0 0] hst6 zr47 rfl rfl (fun g7 w7 hst7 => ?_)
  refine Ops.nil ?_
  refine Run.seq ?_
  refine Run.seq ?_
  refine Run.region ?_
  refine Ops.ex (Ex.move rfl) rfl rfl rfl ?_
  refine Ops.ex (Ex.len' rfl rfl rfl Tryd.underlying25) rfl rfl rfl ?_
  refine Ops.ex (Ex.move rfl) rfl rfl rfl ?_
  refine Ops.nil ?_
  refine Run.block ?_
  have hc8 := f5.cap
  refine Run.sub (e' := [(2, .pointer (some ⟨g6, 0, none⟩)), (4, .pointer (some ⟨g7, 0, none⟩)), (7, .slice A5 p1.length c5), (8, vi (p1.length : Int)), (9, vi ((0 : Nat) : Int))]) (subB_spec ⟨rfl, rfl, rfl, rfl, rfl, trivial⟩) ?_
  refine Run.loop (fun mb8 => (fun e' w' => ∃ (i8 : Nat) (x63 : Int) (x64 : Int) (l65 : List apiPair) (l66 : List apiSession) (A65 : Option Addr) (c65 : Nat) (A66 : Option Addr) (c66 : Nat) (z62 : Zp), mb8 = p1.length - i8 ∧ i8 ≤ p1.length ∧ forL (go_state_Fold.b1) (fun (x63, x64, l65, l66) => some (⟨x63, x64, l65, l66⟩ : apiState)) i8 (p1.drop i8) (x63, x64, l65, l66) = some r ∧ e' = [(2, .pointer (some ⟨g6, 0, none⟩)), (4, .pointer (some ⟨g7, 0, none⟩)), (7, .slice A5 p1.length c5), (8, vi (p1.length : Int)), (9, vi (i8 : Int))] ∧ Le z0 z62 ∧ Sl tapiPair z62 A65 c65 l65 ∧ Sl tapiSession z62 A66 c66 l66 ∧ Ht w0 (frz z62 :: (blk g7 [vi 0, vi 0, .slice none 0 0, .slice none 0 0] 47) :: (blk g6 [vi x63, vi x64, .slice A65 l65.length c65, .slice A66 l66.length c66] 47) :: X) w')) p1.length ⟨0, p0.Index, p0.Term, p0.Pairs, p0.Sessions, A3, c3, A4, c4, z0, rfl, Nat.zero_le _, hf, rfl, hle0, f3, f4, hst7⟩ ?_
  rintro _ e' w67 ⟨i8, x63, x64, l65, l66, A65, c65, A66, c66, z62, rfl, hi8, hf, rfl, hz67, f65, f66, hst67⟩
  replace f5 := f5.mono hz67
  refine Run.seq ?_
  refine Run.region ?_
  refine Ops.ex (Ex.lss rfl rfl) rfl rfl rfl ?_
  refine Ops.nil ?_
  refine Run.seq ?_
  refine Run.cond rfl (fun hc => ?_) (fun hc => ?_)
  · have hl8 := lt_of_dec hc
    obtain ⟨a8, nxb8, ha8, hnxb8, hf⟩ := forL_in hf hl8
    unfold go_state_Fold.b1 at hf
    try dsimp only at hf
    refine Run.skip ?_
    refine Run.seq ?_
    refine Run.block ?_
    refine Run.seq ?_
    refine Run.region ?_
    obtain ⟨g76, p76, o76, cs76, hA76, ho76, hr76, f76⟩ := SlH.elem f5.toH (atI_nat ha8)
    obtain rfl := hr76
    refine Ops.ex (Ex.ixA hA76 ho76 (atI_nat ha8) rfl rfl rfl Tryd.underlying25 sz81) rfl rfl rfl ?_
    refine Ops.loadAgg [vi a8.Index, vi a8.Term, vi a8.Cmd.Op, vi a8.Cmd.Client, vi a8.Cmd.Seq, vs a8.Cmd.Key, vs a8.Cmd.Value, vs a8.Cmd.Old] rfl Tryd.underlying81 rfl sz81 rfl (cells_of_zc rfl (f76.mono hst67.le)) rfl ?_
    refine Ops.allocF [vi 0, vi 0, vi 0, vi 0, vi 0, vs [], vs [], vs []] hst67 zr81 rfl rfl (fun g77 w77 hst77 => ?_)
    refine Ops.store 1 [vi a8.Index, vi a8.Term, vi a8.Cmd.Op, vi a8.Cmd.Client, vi a8.Cmd.Seq, vs a8.Cmd.Key, vs a8.Cmd.Value, vs a8.Cmd.Old] hst77 rfl rfl rfl rfl sz81 rfl (by simp [Value.oneCell']) (by simp) (fun w78 hst78 => ?_)
    refine Ops.nil ?_
    refine Run.region ?_
    refine Ops.loadAgg _ rfl Tryd.underlying47 rfl sz47 rfl (hst78.cells (i := 3) rfl 0 4) rfl ?_
    refine Ops.loadAgg _ rfl Tryd.underlying81 rfl sz81 rfl (hst78.cells (i := 1) rfl 0 8) rfl ?_
    obtain ⟨y79, hy79, hf⟩ := bnd hf
    refine Ops.call rfl rfl Tryd.func30 (by kernel_rfl) (by kernel_rfl) rfl (go_state_Apply.walk (p0 := (⟨x63, x64, l65, l66⟩ : apiState)) (p1 := a8) (hst := hst78) (f3 := f65) (f4 := f66) (hf := hy79)) ?_
    rintro _ w79 ⟨z79, A82, c82, A83, c83, rfl, hz79, f82, f83, hst79⟩
    refine ⟨_, rfl, ?_⟩
    replace f5 := f5.mono hz79; replace f76 := f76.mono hz79; replace f65 := f65.mono hz79; replace f66 := f66.mono hz79
    replace hz67 := hz67.trans hz79
    refine Ops.ex (Ex.move rfl) rfl rfl rfl ?_
    refine Ops.ex (Ex.extract rfl rfl) rfl rfl rfl ?_
    refine Ops.ex (Ex.extract rfl rfl) rfl rfl rfl ?_
    refine Ops.store 3 [vi y79.1.Index, vi y79.1.Term, .slice A82 y79.1.Pairs.length c82, .slice A83 y79.1.Sessions.length c83] hst79 rfl rfl rfl rfl sz47 rfl (by simp [Value.oneCell']) (by simp) (fun w86 hst86 => ?_)
    refine Ops.nil ?_
    refine Run.endBlk ?_
    refine Run.region ?_
    refine Ops.ex (Ex.add rfl rfl) rfl rfl rfl ?_
    refine Ops.ex (Ex.move rfl) rfl rfl rfl ?_
    refine Ops.nil ?_
    refine Run.re 9 rfl (congrArg vi (wr_succ' hl8 hc8)) ?_
    exact Run.sub (by exact subB_spec ⟨rfl, rfl, rfl, rfl, rfl, trivial⟩) (Run.stop ⟨p1.length - (i8 + 1), by omega, i8 + 1, y79.1.Index, y79.1.Term, y79.1.Pairs, y79.1.Sessions, A82, c82, A83, c83, z79, rfl, by omega, (hnxb8 _).symm.trans hf, rfl, hz67, f82, f83, (St.forget hst86 1)⟩)
  · replace hf := forL_out hf (nlt_of_dec hc)
    try dsimp only at hf
    refine Run.exit _ rfl ?_
    refine Run.seq ?_
    refine Run.region ?_
    refine Ops.loadAgg _ rfl Tryd.underlying47 rfl sz47 rfl (hst67.cells (i := 2) rfl 0 4) rfl ?_
    refine Ops.store 1 [vi x63, vi x64, .slice A65 l65.length c65, .slice A66 l66.length c66] hst67 rfl rfl rfl rfl sz47 rfl (by simp [Value.oneCell']) (by simp) (fun w87 hst87 => ?_)
    refine Ops.nil ?_
    obtain rfl := Option.some.inj hf
    exact Run.retV [.agg #[vi x63, vi x64, .slice A65 l65.length c65, .slice A66 l66.length c66]] rfl ⟨⟨_, rfl, run_loadN _ Tryd.underlying47 rfl sz47 rfl (hst87.cells (i := 1) rfl 0 4)⟩, trivial⟩ ⟨z62, A65, c65, A66, c66, rfl, hz67, f65, f66, (St.forget (St.forget hst87 2) 1)⟩
def go_law06_Entries.j1 (p1 : Int) (l66 : List apiEntry) (i5 : Nat) (a5 : law06Say) (nxb5 : (Int × List apiEntry) → Option (List apiEntry)) (x82 : Int) : Option (List apiEntry) :=
  (go_law06_Say_Cmd a5).bind fun y84 => (apB 88 l66 [(⟨wr (p1 + (i5 : Int)), x82, ⟨y84.Op, y84.Client, y84.Seq, y84.Key, y84.Value, y84.Old⟩⟩ : apiEntry)]).bind fun l92 => nxb5 (x82, l92)
def go_law06_Entries.b1 (p1 : Int) (i5 : Nat) (a5 : law06Say) : (Int × List apiEntry) → (Int × List apiEntry → Option (List apiEntry)) → Option (List apiEntry) :=
  fun (x65, l66) nxb5 => if 230 < a5.Op then (go_law06_Entries.j1 p1 l66 i5 a5 nxb5 (wr (x65 + 1))) else (go_law06_Entries.j1 p1 l66 i5 a5 nxb5 x65)
def go_law06_Entries (p0 : List law06Say) (p1 : Int) (p2 : Int) : Option (List apiEntry) :=
  (cutI p0 0 (min (p0.length : Int) 80)).bind fun l4 => forL (go_law06_Entries.b1 p1) (fun (x65, l66) => some l66) 0 l4 (p2, [])
set_option maxRecDepth 100000 in
set_option maxHeartbeats 4000000 in
theorem go_law06_Entries.walk {w0 w : World} {X : List Res} {z0 : Zp} {p0 : List law06Say} {A1 : Option Addr} {c1 : Nat} {p1 : Int} {p2 : Int} {r : List apiEntry} (hst : Ht w0 (frz z0 :: X) w) (f1 : Sl tlaw06Say z0 A1 c1 p0) (hf : go_law06_Entries p0 p1 p2 = some r) :
    Calls Tryd.prog 23 #[.slice A1 p0.length c1, vi p1, vi p2] w fun e w' => ∃ (z' : Zp) (A9001 : Option Addr) (c9001 : Nat), e = .returned (.slice A9001 r.length c9001) ∧ Le z0 z' ∧ Sl tapiEntry z' A9001 c9001 r ∧ Ht w0 (frz z' :: X) w' := by
  refine calls_np Tryd.func23 rfl rfl ?_
  have hle0 := Le.refl z0
  unfold go_law06_Entries at hf
  refine Run.seq ?_
  refine Run.region ?_
  refine Ops.ex (Ex.assign rfl) rfl rfl rfl ?_
  refine Ops.nil ?_
  refine Run.seq ?_
  refine Run.region ?_
  refine Ops.ex (Ex.assign rfl) rfl rfl rfl ?_
  refine Ops.nil ?_
  refine Run.seq ?_
  refine Run.seq ?_
  refine Run.region ?_
  refine Ops.ex (Ex.move rfl) rfl rfl rfl ?_
  refine Ops.ex (Ex.move rfl) rfl rfl rfl ?_
  refine Ops.ex (Ex.len' rfl rfl rfl Tryd.underlying43) rfl rfl rfl ?_
  refine Ops.ex (Ex.min2 rfl rfl rfl) rfl rfl rfl ?_
  obtain ⟨l4, hy4, hf⟩ := bnd hf
  obtain ⟨A4, c4, hA4, hB4, f4⟩ := SlH.sub f1.toH hy4
  replace f4 := f4.toS
  refine Ops.ex (Ex.subA hA4 hB4 hy4 rfl rfl Tryd.underlying43 sz88 rfl rfl) rfl rfl rfl ?_
  refine Ops.ex (Ex.len' rfl rfl rfl Tryd.underlying43) rfl rfl rfl ?_
  refine Ops.ex (Ex.move rfl) rfl rfl rfl ?_
  refine Ops.nil ?_
  refine Run.block ?_
  have hc5 := f4.cap
  have hst67 := hst.row0 81 8
  refine Run.sub (e' := [(1, vi p1), (2, vi p2), (7, .slice none 0 0), (14, .slice A4 l4.length c4), (15, vi (l4.length : Int)), (16, vi ((0 : Nat) : Int))]) (subB_spec ⟨rfl, rfl, rfl, rfl, rfl, rfl, trivial⟩) ?_
  refine Run.loop (fun mb5 => (fun e' w' => ∃ (i5 : Nat) (x65 : Int) (l66 : List apiEntry) (A66 : Option Addr) (c66 : Nat) (d66 : List Value) (z64 : Zp), mb5 = l4.length - i5 ∧ i5 ≤ l4.length ∧ forL (go_law06_Entries.b1 p1) (fun (x65, l66) => some l66) i5 (l4.drop i5) (x65, l66) = some r ∧ e' = [(1, vi p1), (2, vi x65), (7, .slice A66 l66.length c66), (14, .slice A4 l4.length c4), (15, vi (l4.length : Int)), (16, vi (i5 : Int))] ∧ Le z0 z64 ∧ Cs tapiEntry z64 d66 l66 ∧ Ht w0 (frz z64 :: (orow 81 8 (.slice A66 l66.length c66) l66.length d66) :: X) w')) l4.length ⟨0, p2, [], none, 0, [], z0, rfl, Nat.zero_le _, hf, rfl, hle0, (Cs.nil _ _), hst67⟩ ?_
  rintro _ e' w69 ⟨i5, x65, l66, A66, c66, d66, z64, rfl, hi5, hf, rfl, hz69, f66, hst69⟩
  replace f4 := f4.mono hz69
  refine Run.seq ?_
  refine Run.region ?_
  refine Ops.ex (Ex.lss rfl rfl) rfl rfl rfl ?_
  refine Ops.nil ?_
  refine Run.seq ?_
  refine Run.cond rfl (fun hc => ?_) (fun hc => ?_)
  · have hl5 := lt_of_dec hc
    obtain ⟨a5, nxb5, ha5, hnxb5, hf⟩ := forL_in hf hl5
    unfold go_law06_Entries.b1 at hf
    try dsimp only at hf
    refine Run.skip ?_
    refine Run.seq ?_
    refine Run.block ?_
    refine Run.seq ?_
    refine Run.region ?_
    refine Ops.ex (Ex.move rfl) rfl rfl rfl ?_
    obtain ⟨g76, p76, o76, cs76, hA76, ho76, hr76, f76⟩ := SlH.elem f4.toH (atI_nat ha5)
    obtain rfl := hr76
    refine Ops.ex (Ex.ixA hA76 ho76 (atI_nat ha5) rfl rfl rfl Tryd.underlying43 sz88) rfl rfl rfl ?_
    refine Ops.loadAgg [vu8 a5.Op, vu8 a5.Client, vu8 a5.Seq, vu8 a5.Key, vu8 a5.Value, vu8 a5.Old] rfl Tryd.underlying88 rfl sz88 rfl (cells_of_zc rfl (f76.mono hst69.le)) rfl ?_
    refine Ops.allocF [vu8 0, vu8 0, vu8 0, vu8 0, vu8 0, vu8 0] hst69 zr88 rfl rfl (fun g77 w77 hst77 => ?_)
    refine Ops.ex (Ex.assign rfl) rfl rfl rfl ?_
    refine Ops.store 1 [vu8 a5.Op, vu8 a5.Client, vu8 a5.Seq, vu8 a5.Key, vu8 a5.Value, vu8 a5.Old] hst77 rfl rfl rfl rfl sz88 rfl (by simp [Value.oneCell']) (by simp) (fun w78 hst78 => ?_)
    refine Ops.nil ?_
    refine Run.seq ?_
    refine Run.seq ?_
    refine Run.region ?_
    refine Ops.ex (Ex.fieldAddr rfl Tryd.underlying88 rfl sz5) rfl rfl rfl ?_
    refine Ops.load rfl Tryd.underlying5 rfl (hst78.cell (i := 1) rfl rfl) rfl ?_
    refine Ops.ex (Ex.gtr8 (a := a5.Op) (b := 230) rfl rfl) rfl rfl rfl ?_
    refine Ops.nil ?_
    have hm80 := Le.refl z64
    apply Run.jn (fun e' w' => ∃ (x82 : Int) (z81 : Zp), go_law06_Entries.j1 p1 l66 i5 a5 nxb5 x82 = some r ∧ e' = [(1, vi p1), (2, vi x82), (7, .slice A66 l66.length c66), (8, vi (i5 : Int)), (9, .pointer (some ⟨g77, 0, none⟩)), (14, .slice A4 l4.length c4), (15, vi (l4.length : Int)), (16, vi (i5 : Int))] ∧ Le z64 z81 ∧ Le z0 z81 ∧ Ht w0 (frz z81 :: (blk g77 [vu8 a5.Op, vu8 a5.Client, vu8 a5.Seq, vu8 a5.Key, vu8 a5.Value, vu8 a5.Old] 88) :: (orow 81 8 (.slice A66 l66.length c66) l66.length d66) :: X) w')
    · intro hj79
      refine Run.cond rfl (fun hc => ?_) (fun hc => ?_)
      · replace hf := ifT (dec_T hc) hf
        refine Run.region ?_
        refine Ops.ex (Ex.move rfl) rfl rfl rfl ?_
        refine Ops.ex (Ex.add rfl rfl) rfl rfl rfl ?_
        refine Ops.ex (Ex.assign rfl) rfl rfl rfl ?_
        refine Ops.nil ?_
        exact Run.sub (by exact subB_spec ⟨rfl, rfl, rfl, rfl, rfl, rfl, rfl, rfl, trivial⟩) (hj79 _ _ ⟨wr (x65 + 1), z64, hf, rfl, hm80, hz69, hst78⟩)
      · replace hf := ifF (dec_F hc) hf
        refine Run.skip ?_
        exact Run.sub (by exact subB_spec ⟨rfl, rfl, rfl, rfl, rfl, rfl, rfl, rfl, trivial⟩) (hj79 _ _ ⟨x65, z64, hf, rfl, hm80, hz69, hst78⟩)
    · rintro e' w83 ⟨x82, z81, hf, rfl, hz83, hy83_0, hst83⟩
      replace f4 := f4.mono hz83; replace f66 := f66.mono hz83
      unfold go_law06_Entries.j1 at hf
      refine Run.region ?_
      refine Ops.ex (Ex.move rfl) rfl rfl rfl ?_
      refine Ops.ex (Ex.move rfl) rfl rfl rfl ?_
      refine Ops.ex (Ex.move rfl) rfl rfl rfl ?_
      refine Ops.ex (Ex.add rfl rfl) rfl rfl rfl ?_
      refine Ops.ex (Ex.move rfl) rfl rfl rfl ?_
      refine Ops.loadAgg _ rfl Tryd.underlying88 rfl sz88 rfl (hst83.cells (i := 1) rfl 0 6) rfl ?_
      obtain ⟨y84, hy84, hf⟩ := bnd hf
      refine Ops.call rfl rfl Tryd.func31 (by kernel_rfl) (by kernel_rfl) rfl (go_law06_Say_Cmd.walk (p0 := a5) (hst := hst83) (hf := hy84)) ?_
      rintro _ w84 ⟨z84, rfl, hz84, hst84⟩
      refine ⟨_, rfl, ?_⟩
      replace f4 := f4.mono hz84; replace f66 := f66.mono hz84
      replace hy83_0 := hy83_0.trans hz84
      replace hz83 := hz83.trans hz84
      refine Ops.ex (Ex.build [vi (wr (p1 + (i5 : Int))), vi x82, vi y84.Op, vi y84.Client, vi y84.Seq, vs y84.Key, vs y84.Value, vs y84.Old] rfl Tryd.underlying81 zr81 (pl81 Tryd.underlying81) (by kernel_rfl)) rfl rfl rfl ?_
      refine Ops.sliceF [vi (wr (p1 + (i5 : Int))), vi x82, vi y84.Op, vi y84.Client, vi y84.Seq, vs y84.Key, vs y84.Value, vs y84.Old] hst84 rfl Tryd.underlying25 sz81 zr81 rfl rfl (by kernel_rfl) rfl (by simp [Value.oneCell']) rfl (fun A91 w91 hst91 => ?_)
      have f91 : Cs tapiEntry z84 [vi (wr (p1 + (i5 : Int))), vi x82, vi y84.Op, vi y84.Client, vi y84.Seq, vs y84.Key, vs y84.Value, vs y84.Old] [(⟨wr (p1 + (i5 : Int)), x82, ⟨y84.Op, y84.Client, y84.Seq, y84.Key, y84.Value, y84.Old⟩⟩ : apiEntry)] := (Cs.cons (c := [vi (wr (p1 + (i5 : Int))), vi x82, vi y84.Op, vi y84.Client, vi y84.Seq, vs y84.Key, vs y84.Value, vs y84.Old]) rfl (Cs.nil _ _))
      obtain ⟨l92, hy92, hf⟩ := bnd hf
      refine Ops.app 3 hst91 rfl f66 rfl (own_slh f91 rfl (hst91.get (i := 1) rfl)) rfl hy92 rfl rfl rfl rfl Tryd.underlying25 inf81 rfl (by decide) (by decide) rfl (fun A92 c92 d92 w92 f92 hst92 => ?_)
      refine Ops.ex (Ex.assign rfl) rfl rfl rfl ?_
      refine Ops.nil ?_
      refine Run.endBlk ?_
      refine Run.region ?_
      refine Ops.ex (Ex.add rfl rfl) rfl rfl rfl ?_
      refine Ops.ex (Ex.move rfl) rfl rfl rfl ?_
      refine Ops.nil ?_
      refine Run.re 16 rfl (congrArg vi (wr_succ' hl5 hc5)) ?_
      exact Run.sub (by exact subB_spec ⟨rfl, rfl, rfl, rfl, rfl, rfl, trivial⟩) (Run.stop ⟨l4.length - (i5 + 1), by omega, i5 + 1, x82, l92, A92, c92, d92, z84, rfl, by omega, (hnxb5 _).symm.trans hf, rfl, hy83_0, f92, (St.forget (St.forget hst92 2) 1)⟩)
  · replace hf := forL_out hf (nlt_of_dec hc)
    try dsimp only at hf
    refine Run.exit _ rfl ?_
    refine Run.seq ?_
    refine Run.region ?_
    refine Ops.ex (Ex.move rfl) rfl rfl rfl ?_
    refine Ops.ex (Ex.assign rfl) rfl rfl rfl ?_
    refine Ops.nil ?_
    obtain ⟨z93, hz93, f93, hst93⟩ := St.freeze (τ := tapiEntry) (xs := l66) hst69 f66 rfl
    replace f4 := f4.mono hz93
    replace hz69 := hz69.trans hz93
    obtain rfl := Option.some.inj hf
    exact Run.retV [.slice A66 l66.length c66] rfl ⟨rfl, trivial⟩ ⟨z93, A66, c66, rfl, hz69, f93, hst93⟩
def go_law07_Some (p0 : List law06Say) : Option apiState :=
  (go_law06_Entries p0 1 0).bind fun y3 => (go_state_Fold (⟨0, 0, [], []⟩ : apiState) y3).bind fun y5 => some y5
set_option maxRecDepth 100000 in
set_option maxHeartbeats 4000000 in
theorem go_law07_Some.walk {w0 w : World} {X : List Res} {z0 : Zp} {p0 : List law06Say} {A1 : Option Addr} {c1 : Nat} {r : apiState} (hst : Ht w0 (frz z0 :: X) w) (f1 : Sl tlaw06Say z0 A1 c1 p0) (hf : go_law07_Some p0 = some r) :
    Calls Tryd.prog 13 #[.slice A1 p0.length c1] w fun e w' => ∃ (z' : Zp) (A9003 : Option Addr) (c9003 : Nat) (A9004 : Option Addr) (c9004 : Nat), e = .returned (.agg #[vi r.Index, vi r.Term, .slice A9003 r.Pairs.length c9003, .slice A9004 r.Sessions.length c9004]) ∧ Le z0 z' ∧ Sl tapiPair z' A9003 c9003 r.Pairs ∧ Sl tapiSession z' A9004 c9004 r.Sessions ∧ Ht w0 (frz z' :: X) w' := by
  refine calls_np Tryd.func13 rfl rfl ?_
  have hle0 := Le.refl z0
  unfold go_law07_Some at hf
  refine Run.seq ?_
  refine Run.region ?_
  refine Ops.allocF [vi 0, vi 0, .slice none 0 0, .slice none 0 0] hst zr47 rfl rfl (fun g2 w2 hst2 => ?_)
  refine Ops.nil ?_
  refine Run.seq ?_
  refine Run.region ?_
  refine Ops.ex (Ex.build [vi 0, vi 0, .slice none 0 0, .slice none 0 0] rfl Tryd.underlying47 zr47 (pl47 Tryd.underlying47) (by kernel_rfl)) rfl rfl rfl ?_
  refine Ops.ex (Ex.move rfl) rfl rfl rfl ?_
  obtain ⟨y3, hy3, hf⟩ := bnd hf
  refine Ops.call rfl rfl Tryd.func23 (by kernel_rfl) (by kernel_rfl) rfl (go_law06_Entries.walk (p0 := p0) (p1 := 1) (p2 := 0) (hst := hst2) (f1 := f1) (hf := hy3)) ?_
  rintro _ w3 ⟨z3, A4, c4, rfl, hz3, f4, hst3⟩
  refine ⟨_, rfl, ?_⟩
  replace f1 := f1.mono hz3
  replace hle0 := hle0.trans hz3
  obtain ⟨y5, hy5, hf⟩ := bnd hf
  refine Ops.call rfl rfl Tryd.func22 (by kernel_rfl) (by kernel_rfl) rfl (go_state_Fold.walk (p0 := (⟨0, 0, [], []⟩ : apiState)) (p1 := y3) (hst := hst3) (f3 := Sl.nil _ _) (f4 := Sl.nil _ _) (f5 := f4) (hf := hy5)) ?_
  rintro _ w5 ⟨z5, A8, c8, A9, c9, rfl, hz5, f8, f9, hst5⟩
  refine ⟨_, rfl, ?_⟩
  replace f1 := f1.mono hz5; replace f4 := f4.mono hz5
  replace hle0 := hle0.trans hz5
  refine Ops.store 1 [vi y5.Index, vi y5.Term, .slice A8 y5.Pairs.length c8, .slice A9 y5.Sessions.length c9] hst5 rfl rfl rfl rfl sz47 rfl (by simp [Value.oneCell']) (by simp) (fun w10 hst10 => ?_)
  refine Ops.nil ?_
  obtain rfl := Option.some.inj hf
  exact Run.retV [.agg #[vi y5.Index, vi y5.Term, .slice A8 y5.Pairs.length c8, .slice A9 y5.Sessions.length c9]] rfl ⟨⟨_, rfl, run_loadN _ Tryd.underlying47 rfl sz47 rfl (hst10.cells (i := 1) rfl 0 4)⟩, trivial⟩ ⟨z5, A8, c8, A9, c9, rfl, hle0, f8, f9, (St.forget hst10 1)⟩
end Go.Proofs.YtfomkndngnfneaaDoor.V4
