/- Edits: Step.Edit, Find, Do, All, awake. -/
import Derived.Test.YtjlhookdigbjhaaE1
import Derived.Test.YtjlhookdigbjhaaS1
namespace Go.Proofs.Ytjlhookdigbjhaa.E2
open Go Go.RowKit Go.Proofs.Ytjlhookdigbjhaa.Sx Go.Proofs.Ytjlhookdigbjhaa.E1
set_option linter.unusedVariables false
set_option linter.unusedSimpArgs false
structure law10Step where
  Add : List UInt8
  Drop : List UInt8
  Floor : UInt8
  Odd : Bool
  Any : apiRef
  deriving DecidableEq
def tlaw10Step : Ty law10Step where
  sz := 8
  R := fun ζ cs x => ∃ A0 c0 A1 c1, cs = [.slice A0 x.Add.length c0, .slice A1 x.Drop.length c1, vu8 x.Floor, vb x.Odd, vs x.Any.Name, vi x.Any.Kind, vi x.Any.From, vi x.Any.To] ∧ Sl tU8 ζ A0 c0 x.Add ∧ Sl tU8 ζ A1 c1 x.Drop
  len := by rintro ζ cs x ⟨A0, c0, A1, c1, rfl, f0, f1⟩; rfl
  one := by
    rintro ζ cs x ⟨A0, c0, A1, c1, rfl, f0, f1⟩ u hu
    simp only [List.mem_cons, List.not_mem_nil, or_false] at hu
    rcases hu with rfl | rfl | rfl | rfl | rfl | rfl | rfl | rfl <;> rfl
  mono := by rintro ζ ζ' cs x ⟨A0, c0, A1, c1, rfl, f0, f1⟩ hl; exact ⟨A0, c0, A1, c1, rfl, f0.mono hl, f1.mono hl⟩
structure editsEdit where
  Add : List apiRef
  Drop : List Str
  Floor : Int
  deriving DecidableEq
def teditsEdit : Ty editsEdit where
  sz := 3
  R := fun ζ cs x => ∃ A0 c0 A1 c1, cs = [.slice A0 x.Add.length c0, .slice A1 x.Drop.length c1, vi x.Floor] ∧ Sl tapiRef ζ A0 c0 x.Add ∧ Sl tS ζ A1 c1 x.Drop
  len := by rintro ζ cs x ⟨A0, c0, A1, c1, rfl, f0, f1⟩; rfl
  one := by
    rintro ζ cs x ⟨A0, c0, A1, c1, rfl, f0, f1⟩ u hu
    simp only [List.mem_cons, List.not_mem_nil, or_false] at hu
    rcases hu with rfl | rfl | rfl <;> rfl
  mono := by rintro ζ ζ' cs x ⟨A0, c0, A1, c1, rfl, f0, f1⟩ hl; exact ⟨A0, c0, A1, c1, rfl, f0.mono hl, f1.mono hl⟩
structure editsSet where
  Refs : List apiRef
  Floor : Int
  deriving DecidableEq
def teditsSet : Ty editsSet where
  sz := 2
  R := fun ζ cs x => ∃ A0 c0, cs = [.slice A0 x.Refs.length c0, vi x.Floor] ∧ Sl tapiRef ζ A0 c0 x.Refs
  len := by rintro ζ cs x ⟨A0, c0, rfl, f0⟩; rfl
  one := by
    rintro ζ cs x ⟨A0, c0, rfl, f0⟩ u hu
    simp only [List.mem_cons, List.not_mem_nil, or_false] at hu
    rcases hu with rfl | rfl <;> rfl
  mono := by rintro ζ ζ' cs x ⟨A0, c0, rfl, f0⟩ hl; exact ⟨A0, c0, rfl, f0.mono hl⟩
theorem zr29 : (Try.prog.info? 29).map (·.zero) = some (some (.agg #[.slice none 0 0, .slice none 0 0, .int .i64 0])) := by kernel_rfl
theorem sz5 : (Try.prog.info? 5).map (·.size) = some 1 := by kernel_rfl
theorem pl29 {fs : Array Field} (h : Try.prog.underlying 29 = some (.struct fs)) (w : World) : (fs.mapM fun f => do pure (f.offset, ← sizeOf f.type) : Sem (Array (Nat × Nat))).run Try.prog w = .ok #[(0, 1), (1, 1), (2, 1)] w := by
  rw [Try.underlying29] at h
  cases h
  kernel_rfl
theorem sz29 : (Try.prog.info? 29).map (·.size) = some 3 := by kernel_rfl
theorem sz30 : (Try.prog.info? 30).map (·.size) = some 1 := by kernel_rfl
theorem pl24 {fs : Array Field} (h : Try.prog.underlying 24 = some (.struct fs)) (w : World) : (fs.mapM fun f => do pure (f.offset, ← sizeOf f.type) : Sem (Array (Nat × Nat))).run Try.prog w = .ok #[(0, 1), (1, 1), (2, 1), (3, 1)] w := by
  rw [Try.underlying24] at h
  cases h
  kernel_rfl
theorem sz22 : (Try.prog.info? 22).map (·.size) = some 1 := by kernel_rfl
theorem sz3 : (Try.prog.info? 3).map (·.size) = some 1 := by kernel_rfl
theorem sz26 : (Try.prog.info? 26).map (·.size) = some 1 := by kernel_rfl
theorem sz27 : (Try.prog.info? 27).map (·.size) = some 1 := by kernel_rfl
theorem sz9 : (Try.prog.info? 9).map (·.size) = some 1 := by kernel_rfl
theorem zr9 : (Try.prog.info? 9).map (·.zero) = some (some (.string ⟨#[]⟩)) := by kernel_rfl
theorem inf9 : (Try.prog.info? 9).map (fun i => (i.zero, i.size, i.bytes)) = some (some (.string ⟨#[]⟩), 1, 16) := by kernel_rfl
theorem sz4 : (Try.prog.info? 4).map (·.size) = some 1 := by kernel_rfl
theorem zr38 : (Try.prog.info? 38).map (·.zero) = some (some (.agg #[.slice none 0 0, .int .i64 0])) := by kernel_rfl
theorem pl38 {fs : Array Field} (h : Try.prog.underlying 38 = some (.struct fs)) (w : World) : (fs.mapM fun f => do pure (f.offset, ← sizeOf f.type) : Sem (Array (Nat × Nat))).run Try.prog w = .ok #[(0, 1), (1, 1)] w := by
  rw [Try.underlying38] at h
  cases h
  kernel_rfl
theorem sz38 : (Try.prog.info? 38).map (·.size) = some 2 := by kernel_rfl
def go_law10_Step_Edit.j1 (l192 : List apiRef) (a14 : UInt8) (nxb14 : (List apiRef) → Option editsEdit) (y198 : Str) (x206 : Int) : Option editsEdit :=
  (apB 40 l192 [(⟨y198, (((a14 / 8) % 3).toNat : Int), ((a14 / 32).toNat : Int), x206⟩ : apiRef)]).bind fun l210 => nxb14 l210
def go_law10_Step_Edit.b2 (i213 : Nat) (a213 : UInt8) : (List Str) → (List Str → Option editsEdit) → Option editsEdit :=
  fun l257 nxb213 => (go_law10_name a213).bind fun y265 => (apB 16 l257 [y265]).bind fun l268 => nxb213 l268
def go_law10_Step_Edit.b1 (i14 : Nat) (a14 : UInt8) : (List apiRef) → (List apiRef → Option editsEdit) → Option editsEdit :=
  fun l192 nxb14 => (go_law10_name a14).bind fun y198 => if (((a14 / 8) % 3).toNat : Int) = 0 then (go_law10_Step_Edit.j1 l192 a14 nxb14 y198 ((a14 / 32).toNat : Int)) else (go_law10_Step_Edit.j1 l192 a14 nxb14 y198 (wr (((a14 / 32).toNat : Int) + ((a14 % 5).toNat : Int))))
def go_law10_Step_Edit (p0 : law10Step) : Option editsEdit :=
  (cutI p0.Add 0 (min (p0.Add.length : Int) 4)).bind fun l13 => forL (go_law10_Step_Edit.b1) (fun l192 => (cutI p0.Drop 0 (min (p0.Drop.length : Int) 4)).bind fun l212 => forL (go_law10_Step_Edit.b2) (fun l257 => if p0.Odd then ((apB 40 l192 [p0.Any]).bind fun l271 => some (⟨l271, l257, ((p0.Floor % 16).toNat : Int)⟩ : editsEdit)) else (some (⟨l192, l257, ((p0.Floor % 16).toNat : Int)⟩ : editsEdit))) 0 l212 []) 0 l13 []
set_option maxRecDepth 100000 in
set_option maxHeartbeats 4000000 in
theorem go_law10_Step_Edit.walk {w0 w : World} {X : List Res} {z0 : Zp} {p0 : law10Step} {A1 : Option Addr} {c1 : Nat} {A2 : Option Addr} {c2 : Nat} {r : editsEdit} (hst : Ht w0 (frz z0 :: X) w) (f1 : Sl tU8 z0 A1 c1 p0.Add) (f2 : Sl tU8 z0 A2 c2 p0.Drop) (hf : go_law10_Step_Edit p0 = some r) :
    Calls Try.prog 12 #[.agg #[.slice A1 p0.Add.length c1, .slice A2 p0.Drop.length c2, vu8 p0.Floor, vb p0.Odd, vs p0.Any.Name, vi p0.Any.Kind, vi p0.Any.From, vi p0.Any.To]] w fun e w' => ∃ (z' : Zp) (A9001 : Option Addr) (c9001 : Nat) (A9002 : Option Addr) (c9002 : Nat), e = .returned (.agg #[.slice A9001 r.Add.length c9001, .slice A9002 r.Drop.length c9002, vi r.Floor]) ∧ Le z0 z' ∧ Sl tapiRef z' A9001 c9001 r.Add ∧ Sl tS z' A9002 c9002 r.Drop ∧ Ht w0 (frz z' :: X) w' := by
  refine calls_np Try.func12 rfl rfl ?_
  have hle0 := Le.refl z0
  unfold go_law10_Step_Edit at hf
  refine Run.seq ?_
  refine Run.region ?_
  refine Ops.boxF [.slice A1 p0.Add.length c1, .slice A2 p0.Drop.length c2, vu8 p0.Floor, vb p0.Odd, vs p0.Any.Name, vi p0.Any.Kind, vi p0.Any.From, vi p0.Any.To] hst rfl rfl rfl (fun g9 w9 hst9 => ?_)
  refine Ops.allocF [.slice none 0 0, .slice none 0 0, vi 0] hst9 zr29 rfl rfl (fun g10 w10 hst10 => ?_)
  refine Ops.nil ?_
  refine Run.seq ?_
  refine Run.region ?_
  refine Ops.ex (Ex.fieldAddr rfl Try.underlying32 rfl sz5) rfl rfl rfl ?_
  refine Ops.load rfl Try.underlying5 rfl (hst10.cell (i := 2) rfl rfl) rfl ?_
  refine Ops.ex (Ex.rem8 (a := p0.Floor) (b := 16) rfl rfl (by decide)) rfl rfl rfl ?_
  refine Ops.ex (Ex.cu8 rfl Try.underlying5 Try.underlying3) rfl rfl rfl ?_
  refine Ops.ex (Ex.build [.slice none 0 0, .slice none 0 0, vi ((p0.Floor % 16).toNat : Int)] rfl Try.underlying29 zr29 (pl29 Try.underlying29) (by kernel_rfl)) rfl rfl rfl ?_
  refine Ops.allocF [.slice none 0 0, .slice none 0 0, vi 0] hst10 zr29 rfl rfl (fun g11 w11 hst11 => ?_)
  refine Ops.store 1 [.slice none 0 0, .slice none 0 0, vi ((p0.Floor % 16).toNat : Int)] hst11 rfl rfl rfl rfl sz29 rfl (by simp [Value.oneCell']) (by simp) (fun w12 hst12 => ?_)
  refine Ops.nil ?_
  refine Run.seq ?_
  refine Run.seq ?_
  refine Run.region ?_
  refine Ops.ex (Ex.fieldAddr rfl Try.underlying32 rfl sz30) rfl rfl rfl ?_
  refine Ops.load rfl Try.underlying30 rfl (hst12.cell (i := 3) rfl rfl) rfl ?_
  refine Ops.ex (Ex.fieldAddr rfl Try.underlying32 rfl sz30) rfl rfl rfl ?_
  refine Ops.load rfl Try.underlying30 rfl (hst12.cell (i := 3) rfl rfl) rfl ?_
  refine Ops.ex (Ex.len' rfl rfl rfl Try.underlying30) rfl rfl rfl ?_
  refine Ops.ex (Ex.min2 rfl rfl rfl) rfl rfl rfl ?_
  obtain ⟨l13, hy13, hf⟩ := bnd hf
  obtain ⟨A13, c13, hA13, hB13, f13⟩ := SlH.sub f1.toH hy13
  replace f13 := f13.toS
  refine Ops.ex (Ex.subA hA13 hB13 hy13 rfl rfl Try.underlying30 sz5 rfl rfl) rfl rfl rfl ?_
  refine Ops.ex (Ex.len' rfl rfl rfl Try.underlying30) rfl rfl rfl ?_
  refine Ops.ex (Ex.move rfl) rfl rfl rfl ?_
  refine Ops.nil ?_
  refine Run.block ?_
  have hc14 := f13.cap
  have hst193 := hst12.row0 24 4
  refine Run.sub (e' := [(1, .pointer (some ⟨g9, 0, none⟩)), (2, .pointer (some ⟨g10, 0, none⟩)), (3, .pointer (some ⟨g11, 0, none⟩)), (20, .slice A13 l13.length c13), (21, vi (l13.length : Int)), (22, vi ((0 : Nat) : Int))]) (subB_spec ⟨rfl, rfl, rfl, rfl, rfl, rfl, trivial⟩) ?_
  refine Run.loop (fun mb14 => (fun e' w' => ∃ (i14 : Nat) (l192 : List apiRef) (A192 : Option Addr) (c192 : Nat) (d192 : List Value) (z191 : Zp), mb14 = l13.length - i14 ∧ i14 ≤ l13.length ∧ forL (go_law10_Step_Edit.b1) (fun l192 => (cutI p0.Drop 0 (min (p0.Drop.length : Int) 4)).bind fun l212 => forL (go_law10_Step_Edit.b2) (fun l257 => if p0.Odd then ((apB 40 l192 [p0.Any]).bind fun l271 => some (⟨l271, l257, ((p0.Floor % 16).toNat : Int)⟩ : editsEdit)) else (some (⟨l192, l257, ((p0.Floor % 16).toNat : Int)⟩ : editsEdit))) 0 l212 []) i14 (l13.drop i14) l192 = some r ∧ e' = [(1, .pointer (some ⟨g9, 0, none⟩)), (2, .pointer (some ⟨g10, 0, none⟩)), (3, .pointer (some ⟨g11, 0, none⟩)), (20, .slice A13 l13.length c13), (21, vi (l13.length : Int)), (22, vi (i14 : Int))] ∧ Le z0 z191 ∧ Cs tapiRef z191 d192 l192 ∧ Ht w0 (frz z191 :: (orow 24 4 (.slice A192 l192.length c192) l192.length d192) :: (blk g11 [.slice A192 l192.length c192, .slice none 0 0, vi ((p0.Floor % 16).toNat : Int)] 29) :: (blk g10 [.slice none 0 0, .slice none 0 0, vi 0] 29) :: (blk g9 [.slice A1 p0.Add.length c1, .slice A2 p0.Drop.length c2, vu8 p0.Floor, vb p0.Odd, vs p0.Any.Name, vi p0.Any.Kind, vi p0.Any.From, vi p0.Any.To] 32) :: X) w')) l13.length ⟨0, [], none, 0, [], z0, rfl, Nat.zero_le _, hf, rfl, hle0, (Cs.nil _ _), hst193⟩ ?_
  rintro _ e' w195 ⟨i14, l192, A192, c192, d192, z191, rfl, hi14, hf, rfl, hz195, f192, hst195⟩
  replace f13 := f13.mono hz195; replace f1 := f1.mono hz195; replace f2 := f2.mono hz195
  refine Run.seq ?_
  refine Run.region ?_
  refine Ops.ex (Ex.lss rfl rfl) rfl rfl rfl ?_
  refine Ops.nil ?_
  refine Run.seq ?_
  refine Run.cond rfl (fun hc => ?_) (fun hc => ?_)
  · have hl14 := lt_of_dec hc
    obtain ⟨a14, nxb14, ha14, hnxb14, hf⟩ := forL_in hf hl14
    unfold go_law10_Step_Edit.b1 at hf
    try dsimp only at hf
    refine Run.skip ?_
    refine Run.seq ?_
    refine Run.block ?_
    refine Run.seq ?_
    refine Run.region ?_
    obtain ⟨g197, p197, o197, cs197, hA197, ho197, hr197, f197⟩ := SlH.elem f13.toH (atI_nat ha14)
    obtain rfl := hr197
    refine Ops.ex (Ex.ixA hA197 ho197 (atI_nat ha14) rfl rfl rfl Try.underlying30 sz5) rfl rfl rfl ?_
    refine Ops.load rfl Try.underlying5 rfl ((f197.mono hst195.le) 0 _ rfl) rfl ?_
    refine Ops.ex (Ex.assign rfl) rfl rfl rfl ?_
    refine Ops.nil ?_
    refine Run.seq ?_
    refine Run.region ?_
    refine Ops.ex (Ex.move rfl) rfl rfl rfl ?_
    obtain ⟨y198, hy198, hf⟩ := bnd hf
    refine Ops.call rfl rfl Try.func24 (by kernel_rfl) (by kernel_rfl) rfl (go_law10_name.walk (p0 := a14) (hst := hst195) (hf := hy198)) ?_
    rintro _ w198 ⟨z198, rfl, hz198, hst198⟩
    refine ⟨_, rfl, ?_⟩
    replace f13 := f13.mono hz198; replace f197 := f197.mono hz198; replace f192 := f192.mono hz198; replace f1 := f1.mono hz198; replace f2 := f2.mono hz198
    replace hz195 := hz195.trans hz198
    refine Ops.ex (Ex.move rfl) rfl rfl rfl ?_
    refine Ops.ex (Ex.quo8 (a := a14) (b := 8) rfl rfl (by decide)) rfl rfl rfl ?_
    refine Ops.ex (Ex.rem8 (a := (a14 / 8)) (b := 3) rfl rfl (by decide)) rfl rfl rfl ?_
    refine Ops.ex (Ex.cu8 rfl Try.underlying5 Try.underlying22) rfl rfl rfl ?_
    refine Ops.ex (Ex.move rfl) rfl rfl rfl ?_
    refine Ops.ex (Ex.quo8 (a := a14) (b := 32) rfl rfl (by decide)) rfl rfl rfl ?_
    refine Ops.ex (Ex.cu8 rfl Try.underlying5 Try.underlying3) rfl rfl rfl ?_
    refine Ops.ex (Ex.move rfl) rfl rfl rfl ?_
    refine Ops.ex (Ex.quo8 (a := a14) (b := 32) rfl rfl (by decide)) rfl rfl rfl ?_
    refine Ops.ex (Ex.cu8 rfl Try.underlying5 Try.underlying3) rfl rfl rfl ?_
    refine Ops.ex (Ex.move rfl) rfl rfl rfl ?_
    refine Ops.ex (Ex.rem8 (a := a14) (b := 5) rfl rfl (by decide)) rfl rfl rfl ?_
    refine Ops.ex (Ex.cu8 rfl Try.underlying5 Try.underlying3) rfl rfl rfl ?_
    refine Ops.ex (Ex.add rfl rfl) rfl rfl rfl ?_
    refine Ops.ex (Ex.build [vs y198, vi (((a14 / 8) % 3).toNat : Int), vi ((a14 / 32).toNat : Int), vi (wr (((a14 / 32).toNat : Int) + ((a14 % 5).toNat : Int)))] rfl Try.underlying24 zr24 (pl24 Try.underlying24) (by kernel_rfl)) rfl rfl rfl ?_
    refine Ops.allocF [vs [], vi 0, vi 0, vi 0] hst198 zr24 rfl rfl (fun g200 w200 hst200 => ?_)
    refine Ops.store 1 [vs y198, vi (((a14 / 8) % 3).toNat : Int), vi ((a14 / 32).toNat : Int), vi (wr (((a14 / 32).toNat : Int) + ((a14 % 5).toNat : Int)))] hst200 rfl rfl rfl rfl sz24 rfl (by simp [Value.oneCell']) (by simp) (fun w201 hst201 => ?_)
    refine Ops.nil ?_
    refine Run.seq ?_
    refine Run.seq ?_
    refine Run.region ?_
    refine Ops.ex (Ex.fieldAddr rfl Try.underlying24 rfl sz22) rfl rfl rfl ?_
    refine Ops.load rfl Try.underlying22 rfl (hst201.cell (i := 1) rfl rfl) rfl ?_
    refine Ops.ex (Ex.eqlI rfl rfl) rfl rfl rfl ?_
    refine Ops.nil ?_
    have hm204 := Le.refl z198
    apply Run.jn (fun e' w' => ∃ (x206 : Int) (z205 : Zp), go_law10_Step_Edit.j1 l192 a14 nxb14 y198 x206 = some r ∧ e' = [(1, .pointer (some ⟨g9, 0, none⟩)), (2, .pointer (some ⟨g10, 0, none⟩)), (3, .pointer (some ⟨g11, 0, none⟩)), (6, .pointer (some ⟨g200, 0, none⟩)), (20, .slice A13 l13.length c13), (21, vi (l13.length : Int)), (22, vi (i14 : Int))] ∧ Le z198 z205 ∧ Le z0 z205 ∧ Ht w0 (frz z205 :: (blk g200 [vs y198, vi (((a14 / 8) % 3).toNat : Int), vi ((a14 / 32).toNat : Int), vi x206] 24) :: (orow 24 4 (.slice A192 l192.length c192) l192.length d192) :: (blk g11 [.slice A192 l192.length c192, .slice none 0 0, vi ((p0.Floor % 16).toNat : Int)] 29) :: (blk g10 [.slice none 0 0, .slice none 0 0, vi 0] 29) :: (blk g9 [.slice A1 p0.Add.length c1, .slice A2 p0.Drop.length c2, vu8 p0.Floor, vb p0.Odd, vs p0.Any.Name, vi p0.Any.Kind, vi p0.Any.From, vi p0.Any.To] 32) :: X) w')
    · intro hj202
      refine Run.cond rfl (fun hc => ?_) (fun hc => ?_)
      · replace hf := ifT (dec_T hc) hf
        refine Run.region ?_
        refine Ops.ex (Ex.fieldAddr rfl Try.underlying24 rfl sz3) rfl rfl rfl ?_
        refine Ops.load rfl Try.underlying3 rfl (hst201.cell (i := 1) rfl rfl) rfl ?_
        refine Ops.ex (Ex.fieldAddr rfl Try.underlying24 rfl sz3) rfl rfl rfl ?_
        refine Ops.store 1 [vi ((a14 / 32).toNat : Int)] hst201 rfl rfl rfl rfl sz3 rfl (by simp [Value.oneCell']) (by simp) (fun w207 hst207 => ?_)
        refine Ops.nil ?_
        exact Run.sub (by exact subB_spec ⟨rfl, rfl, rfl, rfl, rfl, rfl, rfl, trivial⟩) (hj202 _ _ ⟨((a14 / 32).toNat : Int), z198, hf, rfl, hm204, hz195, hst207⟩)
      · replace hf := ifF (dec_F hc) hf
        refine Run.skip ?_
        exact Run.sub (by exact subB_spec ⟨rfl, rfl, rfl, rfl, rfl, rfl, rfl, trivial⟩) (hj202 _ _ ⟨wr (((a14 / 32).toNat : Int) + ((a14 % 5).toNat : Int)), z198, hf, rfl, hm204, hz195, hst201⟩)
    · rintro e' w208 ⟨x206, z205, hf, rfl, hz208, hy208_0, hst208⟩
      replace f13 := f13.mono hz208; replace f192 := f192.mono hz208; replace f1 := f1.mono hz208; replace f2 := f2.mono hz208
      unfold go_law10_Step_Edit.j1 at hf
      refine Run.region ?_
      refine Ops.ex (Ex.fieldAddr rfl Try.underlying29 rfl sz26) rfl rfl rfl ?_
      refine Ops.load rfl Try.underlying26 rfl (hst208.cell (i := 3) rfl rfl) rfl ?_
      refine Ops.loadAgg _ rfl Try.underlying24 rfl sz24 rfl (hst208.cells (i := 1) rfl 0 4) rfl ?_
      refine Ops.sliceF [vs y198, vi (((a14 / 8) % 3).toNat : Int), vi ((a14 / 32).toNat : Int), vi x206] hst208 rfl Try.underlying26 sz24 zr24 rfl rfl (by kernel_rfl) rfl (by simp [Value.oneCell']) rfl (fun A209 w209 hst209 => ?_)
      have f209 : Cs tapiRef z205 [vs y198, vi (((a14 / 8) % 3).toNat : Int), vi ((a14 / 32).toNat : Int), vi x206] [(⟨y198, (((a14 / 8) % 3).toNat : Int), ((a14 / 32).toNat : Int), x206⟩ : apiRef)] := (Cs.cons (c := [vs y198, vi (((a14 / 8) % 3).toNat : Int), vi ((a14 / 32).toNat : Int), vi x206]) rfl (Cs.nil _ _))
      obtain ⟨l210, hy210, hf⟩ := bnd hf
      refine Ops.app 3 hst209 rfl f192 rfl (own_slh f209 rfl (hst209.get (i := 1) rfl)) rfl hy210 rfl rfl rfl rfl Try.underlying26 inf24 rfl (by decide) (by decide) rfl (fun A210 c210 d210 w210 f210 hst210 => ?_)
      refine Ops.ex (Ex.fieldAddr rfl Try.underlying29 rfl sz26) rfl rfl rfl ?_
      refine Ops.store 4 [.slice A210 l210.length c210] hst210 rfl rfl rfl rfl sz26 rfl (by simp [Value.oneCell']) (by simp) (fun w211 hst211 => ?_)
      refine Ops.nil ?_
      refine Run.endBlk ?_
      refine Run.region ?_
      refine Ops.ex (Ex.add rfl rfl) rfl rfl rfl ?_
      refine Ops.ex (Ex.move rfl) rfl rfl rfl ?_
      refine Ops.nil ?_
      refine Run.re 22 rfl (congrArg vi (wr_succ' hl14 hc14)) ?_
      exact Run.sub (by exact subB_spec ⟨rfl, rfl, rfl, rfl, rfl, rfl, trivial⟩) (Run.stop ⟨l13.length - (i14 + 1), by omega, i14 + 1, l210, A210, c210, d210, z205, rfl, by omega, (hnxb14 _).symm.trans hf, rfl, hy208_0, f210, (St.forget (St.forget hst211 2) 1)⟩)
  · replace hf := forL_out hf (nlt_of_dec hc)
    try dsimp only at hf
    refine Run.exit _ rfl ?_
    refine Run.seq ?_
    refine Run.seq ?_
    refine Run.region ?_
    refine Ops.ex (Ex.fieldAddr rfl Try.underlying32 rfl sz30) rfl rfl rfl ?_
    refine Ops.load rfl Try.underlying30 rfl (hst195.cell (i := 4) rfl rfl) rfl ?_
    refine Ops.ex (Ex.fieldAddr rfl Try.underlying32 rfl sz30) rfl rfl rfl ?_
    refine Ops.load rfl Try.underlying30 rfl (hst195.cell (i := 4) rfl rfl) rfl ?_
    refine Ops.ex (Ex.len' rfl rfl rfl Try.underlying30) rfl rfl rfl ?_
    refine Ops.ex (Ex.min2 rfl rfl rfl) rfl rfl rfl ?_
    obtain ⟨l212, hy212, hf⟩ := bnd hf
    obtain ⟨A212, c212, hA212, hB212, f212⟩ := SlH.sub f2.toH hy212
    replace f212 := f212.toS
    refine Ops.ex (Ex.subA hA212 hB212 hy212 rfl rfl Try.underlying30 sz5 rfl rfl) rfl rfl rfl ?_
    refine Ops.ex (Ex.len' rfl rfl rfl Try.underlying30) rfl rfl rfl ?_
    refine Ops.ex (Ex.move rfl) rfl rfl rfl ?_
    refine Ops.nil ?_
    refine Run.block ?_
    have hc213 := f212.cap
    have hm214 := Le.refl z191
    have hst258 := hst195.row0 9 1
    refine Run.sub (e' := [(1, .pointer (some ⟨g9, 0, none⟩)), (2, .pointer (some ⟨g10, 0, none⟩)), (3, .pointer (some ⟨g11, 0, none⟩)), (62, .slice A212 l212.length c212), (63, vi (l212.length : Int)), (64, vi ((0 : Nat) : Int))]) (subB_spec ⟨rfl, rfl, rfl, rfl, rfl, rfl, trivial⟩) ?_
    refine Run.loop (fun mb213 => (fun e' w' => ∃ (i213 : Nat) (l257 : List Str) (A257 : Option Addr) (c257 : Nat) (d257 : List Value) (z256 : Zp), mb213 = l212.length - i213 ∧ i213 ≤ l212.length ∧ forL (go_law10_Step_Edit.b2) (fun l257 => if p0.Odd then ((apB 40 l192 [p0.Any]).bind fun l271 => some (⟨l271, l257, ((p0.Floor % 16).toNat : Int)⟩ : editsEdit)) else (some (⟨l192, l257, ((p0.Floor % 16).toNat : Int)⟩ : editsEdit))) i213 (l212.drop i213) l257 = some r ∧ e' = [(1, .pointer (some ⟨g9, 0, none⟩)), (2, .pointer (some ⟨g10, 0, none⟩)), (3, .pointer (some ⟨g11, 0, none⟩)), (62, .slice A212 l212.length c212), (63, vi (l212.length : Int)), (64, vi (i213 : Int))] ∧ Le z191 z256 ∧ Le z0 z256 ∧ Cs tS z256 d257 l257 ∧ Ht w0 (frz z256 :: (orow 9 1 (.slice A257 l257.length c257) l257.length d257) :: (orow 24 4 (.slice A192 l192.length c192) l192.length d192) :: (blk g11 [.slice A192 l192.length c192, .slice A257 l257.length c257, vi ((p0.Floor % 16).toNat : Int)] 29) :: (blk g10 [.slice none 0 0, .slice none 0 0, vi 0] 29) :: (blk g9 [.slice A1 p0.Add.length c1, .slice A2 p0.Drop.length c2, vu8 p0.Floor, vb p0.Odd, vs p0.Any.Name, vi p0.Any.Kind, vi p0.Any.From, vi p0.Any.To] 32) :: X) w')) l212.length ⟨0, [], none, 0, [], z191, rfl, Nat.zero_le _, hf, rfl, hm214, hz195, (Cs.nil _ _), hst258⟩ ?_
    rintro _ e' w260 ⟨i213, l257, A257, c257, d257, z256, rfl, hi213, hf, rfl, hz260, hy260_0, f257, hst260⟩
    replace f212 := f212.mono hz260; replace f192 := f192.mono hz260; replace f1 := f1.mono hz260; replace f2 := f2.mono hz260
    refine Run.seq ?_
    refine Run.region ?_
    refine Ops.ex (Ex.lss rfl rfl) rfl rfl rfl ?_
    refine Ops.nil ?_
    refine Run.seq ?_
    refine Run.cond rfl (fun hc => ?_) (fun hc => ?_)
    · have hl213 := lt_of_dec hc
      obtain ⟨a213, nxb213, ha213, hnxb213, hf⟩ := forL_in hf hl213
      unfold go_law10_Step_Edit.b2 at hf
      try dsimp only at hf
      refine Run.skip ?_
      refine Run.seq ?_
      refine Run.block ?_
      refine Run.seq ?_
      refine Run.region ?_
      obtain ⟨g262, p262, o262, cs262, hA262, ho262, hr262, f262⟩ := SlH.elem f212.toH (atI_nat ha213)
      obtain rfl := hr262
      refine Ops.ex (Ex.ixA hA262 ho262 (atI_nat ha213) rfl rfl rfl Try.underlying30 sz5) rfl rfl rfl ?_
      refine Ops.load rfl Try.underlying5 rfl ((f262.mono hst260.le) 0 _ rfl) rfl ?_
      refine Ops.ex (Ex.assign rfl) rfl rfl rfl ?_
      refine Ops.nil ?_
      have hm264 := Le.refl z256
      refine Run.drawH [([], fun w => ∃ ζ Y, Le z256 ζ ∧ Ht w0 (frz ζ :: (orow 24 4 (.slice A192 l192.length c192) l192.length d192) :: (blk g10 [.slice none 0 0, .slice none 0 0, vi 0] 29) :: (blk g9 [.slice A1 p0.Add.length c1, .slice A2 p0.Drop.length c2, vu8 p0.Floor, vb p0.Odd, vs p0.Any.Name, vi p0.Any.Kind, vi p0.Any.From, vi p0.Any.To] 32) :: Y) w), ([5, 7], fun w => ∃ ζ Y, Le z256 ζ ∧ Ht w0 (frz ζ :: (orow 9 1 (.slice A257 l257.length c257) l257.length d257) :: Y) w), ([7], fun w => ∃ ζ Y, Le z256 ζ ∧ Ht w0 (frz ζ :: (blk g11 [.slice A192 l192.length c192, .slice A257 l257.length c257, vi ((p0.Floor % 16).toNat : Int)] 29) :: Y) w)] (by kernel_rfl) hst260 (fun w263 hst263 => ?_)
      have hS0 := (⟨_, _, (Le.refl _), (St.up (St.up (St.up (St.up hst263 5 rfl) 5 rfl) 4 rfl) 3 rfl)⟩ : (fun w => ∃ ζ Y, Le z256 ζ ∧ Ht w0 (frz ζ :: (orow 24 4 (.slice A192 l192.length c192) l192.length d192) :: (blk g10 [.slice none 0 0, .slice none 0 0, vi 0] 29) :: (blk g9 [.slice A1 p0.Add.length c1, .slice A2 p0.Drop.length c2, vu8 p0.Floor, vb p0.Odd, vs p0.Any.Name, vi p0.Any.Kind, vi p0.Any.From, vi p0.Any.To] 32) :: Y) w) _)
      have hS1 := (⟨_, _, (Le.refl _), (St.up (St.up hst263 1 rfl) 1 rfl)⟩ : (fun w => ∃ ζ Y, Le z256 ζ ∧ Ht w0 (frz ζ :: (orow 9 1 (.slice A257 l257.length c257) l257.length d257) :: Y) w) _)
      have hS2 := (⟨_, _, (Le.refl _), (St.up (St.up hst263 3 rfl) 1 rfl)⟩ : (fun w => ∃ ζ Y, Le z256 ζ ∧ Ht w0 (frz ζ :: (blk g11 [.slice A192 l192.length c192, .slice A257 l257.length c257, vi ((p0.Floor % 16).toNat : Int)] 29) :: Y) w) _)
      refine Any.takeE 0 rfl rfl rfl rfl (by kernel_rfl) (fun _ _ _ _ _ h => h) ((Ex.fieldAddr rfl Try.underlying29 rfl sz27).s) ?_
      refine Any.take 2 1 rfl rfl rfl rfl rfl (by kernel_rfl) (fun _ _ _ _ _ h => h) (ExS.load rfl Try.underlying27 rfl (fun w hS => by obtain ⟨_, _, _, hs⟩ := hS; exact hs.cell (i := 1) rfl rfl)) hS2 ?_
      refine Any.takeE 2 rfl rfl rfl rfl (by kernel_rfl) (fun _ _ _ _ _ h => h) ((Ex.move rfl).s) ?_
      obtain ⟨y265, hy265, hf⟩ := bnd hf
      refine Any.one 3 (by kernel_rfl) rfl rfl (One.of_ops rfl ?_)
      refine Ops.call rfl rfl Try.func24 (by kernel_rfl) (by kernel_rfl) rfl (go_law10_name.walk (p0 := a213) (hst := hst263) (hf := hy265)) ?_
      rintro _ w265 ⟨z265, rfl, hz265, hst265⟩
      refine ⟨_, rfl, Ops.stop ?_⟩
      replace f212 := f212.mono hz265; replace f262 := f262.mono hz265; replace f257 := f257.mono hz265; replace f192 := f192.mono hz265; replace f1 := f1.mono hz265; replace f2 := f2.mono hz265
      replace hy260_0 := hy260_0.trans hz265
      replace hz260 := hz260.trans hz265
      replace hm264 := hm264.trans hz265
      have hS0 := (⟨_, _, hm264, (St.up (St.up (St.up (St.up hst265 5 rfl) 5 rfl) 4 rfl) 3 rfl)⟩ : (fun w => ∃ ζ Y, Le z256 ζ ∧ Ht w0 (frz ζ :: (orow 24 4 (.slice A192 l192.length c192) l192.length d192) :: (blk g10 [.slice none 0 0, .slice none 0 0, vi 0] 29) :: (blk g9 [.slice A1 p0.Add.length c1, .slice A2 p0.Drop.length c2, vu8 p0.Floor, vb p0.Odd, vs p0.Any.Name, vi p0.Any.Kind, vi p0.Any.From, vi p0.Any.To] 32) :: Y) w) _)
      have hS1 := (⟨_, _, hm264, (St.up (St.up hst265 1 rfl) 1 rfl)⟩ : (fun w => ∃ ζ Y, Le z256 ζ ∧ Ht w0 (frz ζ :: (orow 9 1 (.slice A257 l257.length c257) l257.length d257) :: Y) w) _)
      have hS2 := (⟨_, _, hm264, (St.up (St.up hst265 3 rfl) 1 rfl)⟩ : (fun w => ∃ ζ Y, Le z256 ζ ∧ Ht w0 (frz ζ :: (blk g11 [.slice A192 l192.length c192, .slice A257 l257.length c257, vi ((p0.Floor % 16).toNat : Int)] 29) :: Y) w) _)
      refine ⟨⟨.inr (fun _ => hS0), .inr (fun _ => hS1), .inr (fun _ => hS2), trivial⟩, ?_⟩
      refine Any.one 4 (by kernel_rfl) rfl rfl (One.of_ops rfl ?_)
      refine Ops.sliceF [vs y265] hst265 rfl Try.underlying27 sz9 zr9 rfl rfl (by kernel_rfl) rfl (by simp [Value.oneCell']) rfl (fun A267 w267 hst267 => Ops.stop ?_)
      have f267 : Cs tS z265 [vs y265] [y265] := (Cs.cons (c := [vs y265]) rfl (Cs.nil _ _))
      have hS0 := (⟨_, _, hm264, (St.up (St.up (St.up (St.up hst267 6 rfl) 6 rfl) 5 rfl) 3 rfl)⟩ : (fun w => ∃ ζ Y, Le z256 ζ ∧ Ht w0 (frz ζ :: (orow 24 4 (.slice A192 l192.length c192) l192.length d192) :: (blk g10 [.slice none 0 0, .slice none 0 0, vi 0] 29) :: (blk g9 [.slice A1 p0.Add.length c1, .slice A2 p0.Drop.length c2, vu8 p0.Floor, vb p0.Odd, vs p0.Any.Name, vi p0.Any.Kind, vi p0.Any.From, vi p0.Any.To] 32) :: Y) w) _)
      have hS1 := (⟨_, _, hm264, (St.up (St.up hst267 2 rfl) 1 rfl)⟩ : (fun w => ∃ ζ Y, Le z256 ζ ∧ Ht w0 (frz ζ :: (orow 9 1 (.slice A257 l257.length c257) l257.length d257) :: Y) w) _)
      have hS2 := (⟨_, _, hm264, (St.up (St.up hst267 4 rfl) 1 rfl)⟩ : (fun w => ∃ ζ Y, Le z256 ζ ∧ Ht w0 (frz ζ :: (blk g11 [.slice A192 l192.length c192, .slice A257 l257.length c257, vi ((p0.Floor % 16).toNat : Int)] 29) :: Y) w) _)
      refine ⟨⟨.inr (fun _ => hS0), .inr (fun _ => hS1), .inr (fun _ => hS2), trivial⟩, ?_⟩
      obtain ⟨l268, hy268, hf⟩ := bnd hf
      refine Any.one 5 (by kernel_rfl) rfl rfl (One.of_ops rfl ?_)
      refine Ops.app 2 hst267 rfl f257 rfl (own_slh f267 rfl (hst267.get (i := 1) rfl)) rfl hy268 rfl rfl rfl rfl Try.underlying27 inf9 rfl (by decide) (by decide) rfl (fun A268 c268 d268 w268 f268 hst268 => Ops.stop ?_)
      have hS0 := (⟨_, _, hm264, (St.up (St.up (St.up (St.up hst268 6 rfl) 6 rfl) 5 rfl) 3 rfl)⟩ : (fun w => ∃ ζ Y, Le z256 ζ ∧ Ht w0 (frz ζ :: (orow 24 4 (.slice A192 l192.length c192) l192.length d192) :: (blk g10 [.slice none 0 0, .slice none 0 0, vi 0] 29) :: (blk g9 [.slice A1 p0.Add.length c1, .slice A2 p0.Drop.length c2, vu8 p0.Floor, vb p0.Odd, vs p0.Any.Name, vi p0.Any.Kind, vi p0.Any.From, vi p0.Any.To] 32) :: Y) w) _)
      have hS2 := (⟨_, _, hm264, (St.up (St.up hst268 4 rfl) 1 rfl)⟩ : (fun w => ∃ ζ Y, Le z256 ζ ∧ Ht w0 (frz ζ :: (blk g11 [.slice A192 l192.length c192, .slice A257 l257.length c257, vi ((p0.Floor % 16).toNat : Int)] 29) :: Y) w) _)
      refine ⟨⟨.inr (fun _ => hS0), .inl (by decide), .inr (fun _ => hS2), trivial⟩, ?_⟩
      refine Any.takeE 6 rfl rfl rfl rfl (by kernel_rfl) (fun _ _ _ _ _ h => h) ((Ex.fieldAddr rfl Try.underlying29 rfl sz27).s) ?_
      refine Any.one 7 (by kernel_rfl) rfl rfl (One.of_ops rfl ?_)
      refine Ops.store 4 [.slice A268 l268.length c268] hst268 rfl rfl rfl rfl sz27 rfl (by simp [Value.oneCell']) (by simp) (fun w269 hst269 => Ops.stop ?_)
      have hS0 := (⟨_, _, hm264, (St.up (St.up (St.up (St.up hst269 6 rfl) 6 rfl) 5 rfl) 3 rfl)⟩ : (fun w => ∃ ζ Y, Le z256 ζ ∧ Ht w0 (frz ζ :: (orow 24 4 (.slice A192 l192.length c192) l192.length d192) :: (blk g10 [.slice none 0 0, .slice none 0 0, vi 0] 29) :: (blk g9 [.slice A1 p0.Add.length c1, .slice A2 p0.Drop.length c2, vu8 p0.Floor, vb p0.Odd, vs p0.Any.Name, vi p0.Any.Kind, vi p0.Any.From, vi p0.Any.To] 32) :: Y) w) _)
      refine ⟨⟨.inr (fun _ => hS0), .inl (by decide), .inl (by decide), trivial⟩, ?_⟩
      refine Any.done (by kernel_rfl) ?_
      refine Run.endBlk ?_
      refine Run.region ?_
      refine Ops.ex (Ex.add rfl rfl) rfl rfl rfl ?_
      refine Ops.ex (Ex.move rfl) rfl rfl rfl ?_
      refine Ops.nil ?_
      refine Run.re 64 rfl (congrArg vi (wr_succ' hl213 hc213)) ?_
      exact Run.sub (by exact subB_spec ⟨rfl, rfl, rfl, rfl, rfl, rfl, trivial⟩) (Run.stop ⟨l212.length - (i213 + 1), by omega, i213 + 1, l268, A268, c268, d268, z265, rfl, by omega, (hnxb213 _).symm.trans hf, rfl, hz260, hy260_0, f268, (St.forget hst269 1)⟩)
    · replace hf := forL_out hf (nlt_of_dec hc)
      try dsimp only at hf
      refine Run.exit _ rfl ?_
      refine Run.seq ?_
      refine Run.seq ?_
      refine Run.region ?_
      refine Ops.ex (Ex.fieldAddr rfl Try.underlying32 rfl sz4) rfl rfl rfl ?_
      refine Ops.load rfl Try.underlying4 rfl (hst260.cell (i := 5) rfl rfl) rfl ?_
      refine Ops.nil ?_
      refine Run.cond rfl (fun hc => ?_) (fun hc => ?_)
      · replace hf := ifTb hc hf
        refine Run.region ?_
        refine Ops.ex (Ex.fieldAddr rfl Try.underlying29 rfl sz26) rfl rfl rfl ?_
        refine Ops.load rfl Try.underlying26 rfl (hst260.cell (i := 3) rfl rfl) rfl ?_
        refine Ops.ex (Ex.fieldAddr rfl Try.underlying32 rfl sz24) rfl rfl rfl ?_
        refine Ops.loadAgg _ rfl Try.underlying24 rfl sz24 rfl (hst260.cells (i := 5) rfl 4 4) rfl ?_
        refine Ops.sliceF [vs p0.Any.Name, vi p0.Any.Kind, vi p0.Any.From, vi p0.Any.To] hst260 rfl Try.underlying26 sz24 zr24 rfl rfl (by kernel_rfl) rfl (by simp [Value.oneCell']) rfl (fun A270 w270 hst270 => ?_)
        have f270 : Cs tapiRef z256 [vs p0.Any.Name, vi p0.Any.Kind, vi p0.Any.From, vi p0.Any.To] [p0.Any] := (Cs.cons (c := [vs p0.Any.Name, vi p0.Any.Kind, vi p0.Any.From, vi p0.Any.To]) rfl (Cs.nil _ _))
        obtain ⟨l271, hy271, hf⟩ := bnd hf
        refine Ops.app 3 hst270 rfl f192 rfl (own_slh f270 rfl (hst270.get (i := 1) rfl)) rfl hy271 rfl rfl rfl rfl Try.underlying26 inf24 rfl (by decide) (by decide) rfl (fun A271 c271 d271 w271 f271 hst271 => ?_)
        refine Ops.ex (Ex.fieldAddr rfl Try.underlying29 rfl sz26) rfl rfl rfl ?_
        refine Ops.store 4 [.slice A271 l271.length c271] hst271 rfl rfl rfl rfl sz26 rfl (by simp [Value.oneCell']) (by simp) (fun w272 hst272 => ?_)
        refine Ops.nil ?_
        refine Run.seq ?_
        refine Run.region ?_
        refine Ops.loadAgg _ rfl Try.underlying29 rfl sz29 rfl (hst272.cells (i := 4) rfl 0 3) rfl ?_
        refine Ops.store 5 [.slice A271 l271.length c271, .slice A257 l257.length c257, vi ((p0.Floor % 16).toNat : Int)] hst272 rfl rfl rfl rfl sz29 rfl (by simp [Value.oneCell']) (by simp) (fun w273 hst273 => ?_)
        refine Ops.nil ?_
        obtain ⟨z274, hz274, f274, hst274⟩ := St.freeze (τ := tapiRef) (xs := l271) (St.up (St.up (St.up (St.up (St.up (St.up (St.up hst273 6 rfl) 6 rfl) 6 rfl) 5 rfl) 5 rfl) 6 rfl) 6 rfl) f271 rfl
        replace f212 := f212.mono hz274; replace f270 := f270.mono hz274; replace f257 := f257.mono hz274; replace f1 := f1.mono hz274; replace f2 := f2.mono hz274
        replace hy260_0 := hy260_0.trans hz274
        replace hz260 := hz260.trans hz274
        obtain ⟨z275, hz275, f275, hst275⟩ := St.freeze (τ := tS) (xs := l257) (St.up (St.up (St.up (St.up (St.up (St.up hst274 5 rfl) 5 rfl) 5 rfl) 4 rfl) 5 rfl) 5 rfl) f257 rfl
        replace f212 := f212.mono hz275; replace f274 := f274.mono hz275; replace f270 := f270.mono hz275; replace f1 := f1.mono hz275; replace f2 := f2.mono hz275
        replace hy260_0 := hy260_0.trans hz275
        replace hz260 := hz260.trans hz275
        obtain rfl := Option.some.inj hf
        exact Run.retV [.agg #[.slice A271 l271.length c271, .slice A257 l257.length c257, vi ((p0.Floor % 16).toNat : Int)]] rfl ⟨⟨_, rfl, run_loadN _ Try.underlying29 rfl sz29 rfl (hst275.cells (i := 3) rfl 0 3)⟩, trivial⟩ ⟨z275, A271, c271, A257, c257, rfl, hy260_0, f274, f275, (St.forget (St.forget (St.forget (St.forget hst275 4) 3) 2) 1)⟩
      · replace hf := ifFb hc hf
        refine Run.skip ?_
        refine Run.seq ?_
        refine Run.region ?_
        refine Ops.loadAgg _ rfl Try.underlying29 rfl sz29 rfl (hst260.cells (i := 3) rfl 0 3) rfl ?_
        refine Ops.store 4 [.slice A192 l192.length c192, .slice A257 l257.length c257, vi ((p0.Floor % 16).toNat : Int)] hst260 rfl rfl rfl rfl sz29 rfl (by simp [Value.oneCell']) (by simp) (fun w276 hst276 => ?_)
        refine Ops.nil ?_
        obtain ⟨z277, hz277, f277, hst277⟩ := St.freeze (τ := tapiRef) (xs := l192) (St.up (St.up (St.up (St.up (St.up (St.up hst276 5 rfl) 5 rfl) 5 rfl) 4 rfl) 5 rfl) 5 rfl) f192 rfl
        replace f212 := f212.mono hz277; replace f257 := f257.mono hz277; replace f1 := f1.mono hz277; replace f2 := f2.mono hz277
        replace hy260_0 := hy260_0.trans hz277
        replace hz260 := hz260.trans hz277
        obtain ⟨z278, hz278, f278, hst278⟩ := St.freeze (τ := tS) (xs := l257) hst277 f257 rfl
        replace f212 := f212.mono hz278; replace f277 := f277.mono hz278; replace f1 := f1.mono hz278; replace f2 := f2.mono hz278
        replace hy260_0 := hy260_0.trans hz278
        replace hz260 := hz260.trans hz278
        obtain rfl := Option.some.inj hf
        exact Run.retV [.agg #[.slice A192 l192.length c192, .slice A257 l257.length c257, vi ((p0.Floor % 16).toNat : Int)]] rfl ⟨⟨_, rfl, run_loadN _ Try.underlying29 rfl sz29 rfl (hst278.cells (i := 2) rfl 0 3)⟩, trivial⟩ ⟨z278, A192, c192, A257, c257, rfl, hy260_0, f277, f278, (St.forget (St.forget (St.forget hst278 3) 2) 1)⟩
def go_edits_Find_c1 (p0 : apiRef) (q0 : Str) : Option Bool :=
  some (decide (p0.Name = q0))
set_option maxRecDepth 100000 in
set_option maxHeartbeats 4000000 in
theorem go_edits_Find_c1.walk {w0 w : World} {X : List Res} {z0 : Zp} {p0 : apiRef} {q0 : Str} {gq0 : Nat} {r : Bool} (hst : Ht w0 (frz z0 :: (blk gq0 [vs q0] 9) :: X) w) (hf : go_edits_Find_c1 p0 q0 = some r) :
    Calls Try.prog 33 #[.agg #[vs p0.Name, vi p0.Kind, vi p0.From, vi p0.To], .pointer (some ⟨gq0, 0, none⟩)] w fun e w' => ∃ (z' : Zp), e = .returned (vb r) ∧ Le z0 z' ∧ Ht w0 (frz z' :: (blk gq0 [vs q0] 9) :: X) w' := by
  refine calls_np Try.func33 rfl rfl ?_
  have hle0 := Le.refl z0
  unfold go_edits_Find_c1 at hf
  refine Run.seq ?_
  refine Run.region ?_
  refine Ops.boxF [vs p0.Name, vi p0.Kind, vi p0.From, vi p0.To] hst rfl rfl rfl (fun g6 w6 hst6 => ?_)
  refine Ops.ex (Ex.assign rfl) rfl rfl rfl ?_
  refine Ops.nil ?_
  refine Run.seq ?_
  refine Run.region ?_
  refine Ops.ex (Ex.fieldAddr rfl Try.underlying24 rfl sz9) rfl rfl rfl ?_
  refine Ops.load rfl Try.underlying9 rfl (hst6.cell (i := 1) rfl rfl) rfl ?_
  refine Ops.load rfl Try.underlying9 rfl (hst6.cell (i := 2) rfl rfl) rfl ?_
  refine Ops.ex (Ex.eqlT rfl rfl) rfl rfl rfl ?_
  refine Ops.ex (Ex.assign rfl) rfl rfl rfl ?_
  refine Ops.nil ?_
  obtain rfl := Option.some.inj hf
  exact Run.retV [vb (decide (p0.Name = q0))] rfl ⟨rfl, trivial⟩ ⟨z0, rfl, hle0, (St.forget hst6 1)⟩
def go_slices_IndexFunc_api_Ref_api_Ref_edits_Find_c1.b1 (p1_0 : Str) (i3 : Nat) (a3 : apiRef) : Unit → (Unit → Option Int) → Option Int :=
  fun _ nxb3 => (go_edits_Find_c1 a3 p1_0).bind fun y29 => if y29 then (some (i3 : Int)) else (nxb3 ())
def go_slices_IndexFunc_api_Ref_api_Ref_edits_Find_c1 (p0 : List apiRef) (p1_0 : Str) : Option Int :=
  forL (go_slices_IndexFunc_api_Ref_api_Ref_edits_Find_c1.b1 p1_0) (fun _ => some (-1)) 0 p0 ()
set_option maxRecDepth 100000 in
set_option maxHeartbeats 4000000 in
theorem go_slices_IndexFunc_api_Ref_api_Ref_edits_Find_c1.walk {w0 w : World} {X : List Res} {z0 : Zp} {p0 : List apiRef} {A1 : Option Addr} {c1 : Nat} {p1_0 : Str} {g1_0 : Nat} {r : Int} (hst : Ht w0 (frz z0 :: (blk g1_0 [vs p1_0] 9) :: X) w) (f1 : Sl tapiRef z0 A1 c1 p0) (hf : go_slices_IndexFunc_api_Ref_api_Ref_edits_Find_c1 p0 p1_0 = some r) :
    Calls Try.prog 32 #[.slice A1 p0.length c1, .func (.func 33) #[] #[.pointer (some ⟨g1_0, 0, none⟩)]] w fun e w' => ∃ (z' : Zp), e = .returned (vi r) ∧ Le z0 z' ∧ Ht w0 (frz z' :: (blk g1_0 [vs p1_0] 9) :: X) w' := by
  refine calls_np Try.func32 rfl rfl ?_
  have hle0 := Le.refl z0
  unfold go_slices_IndexFunc_api_Ref_api_Ref_edits_Find_c1 at hf
  refine Run.seq ?_
  refine Run.region ?_
  refine Ops.ex (Ex.assign rfl) rfl rfl rfl ?_
  refine Ops.nil ?_
  refine Run.seq ?_
  refine Run.seq ?_
  refine Run.region ?_
  refine Ops.ex (Ex.move rfl) rfl rfl rfl ?_
  refine Ops.ex (Ex.len' rfl rfl rfl Try.underlying26) rfl rfl rfl ?_
  refine Ops.ex (Ex.move rfl) rfl rfl rfl ?_
  refine Ops.nil ?_
  refine Run.block ?_
  have hc3 := f1.cap
  refine Run.sub (e' := [(0, .slice A1 p0.length c1), (1, .func (.func 33) #[] #[.pointer (some ⟨g1_0, 0, none⟩)]), (7, vi (p0.length : Int)), (8, vi ((0 : Nat) : Int))]) (subB_spec ⟨rfl, rfl, rfl, rfl, trivial⟩) ?_
  refine Run.loop (fun mb3 => (fun e' w' => ∃ (i3 : Nat) (z22 : Zp), mb3 = p0.length - i3 ∧ i3 ≤ p0.length ∧ forL (go_slices_IndexFunc_api_Ref_api_Ref_edits_Find_c1.b1 p1_0) (fun _ => some (-1)) i3 (p0.drop i3) () = some r ∧ e' = [(0, .slice A1 p0.length c1), (1, .func (.func 33) #[] #[.pointer (some ⟨g1_0, 0, none⟩)]), (7, vi (p0.length : Int)), (8, vi (i3 : Int))] ∧ Le z0 z22 ∧ Ht w0 (frz z22 :: (blk g1_0 [vs p1_0] 9) :: X) w')) p0.length ⟨0, z0, rfl, Nat.zero_le _, hf, rfl, hle0, hst⟩ ?_
  rintro _ e' w23 ⟨i3, z22, rfl, hi3, hf, rfl, hz23, hst23⟩
  replace f1 := f1.mono hz23
  refine Run.seq ?_
  refine Run.region ?_
  refine Ops.ex (Ex.lss rfl rfl) rfl rfl rfl ?_
  refine Ops.nil ?_
  refine Run.seq ?_
  refine Run.cond rfl (fun hc => ?_) (fun hc => ?_)
  · have hl3 := lt_of_dec hc
    obtain ⟨a3, nxb3, ha3, hnxb3, hf⟩ := forL_in hf hl3
    unfold go_slices_IndexFunc_api_Ref_api_Ref_edits_Find_c1.b1 at hf
    try dsimp only at hf
    refine Run.skip ?_
    refine Run.seq ?_
    refine Run.block ?_
    refine Run.seq ?_
    refine Run.region ?_
    refine Ops.ex (Ex.move rfl) rfl rfl rfl ?_
    refine Ops.ex (Ex.assign rfl) rfl rfl rfl ?_
    refine Ops.nil ?_
    refine Run.seq ?_
    refine Run.region ?_
    refine Ops.ex (Ex.move rfl) rfl rfl rfl ?_
    refine Ops.ex (Ex.move rfl) rfl rfl rfl ?_
    refine Ops.ex (Ex.move rfl) rfl rfl rfl ?_
    obtain ⟨g28, p28, o28, cs28, hA28, ho28, hr28, f28⟩ := SlH.elem f1.toH (atI_nat ha3)
    obtain rfl := hr28
    refine Ops.ex (Ex.ixA hA28 ho28 (atI_nat ha3) rfl rfl rfl Try.underlying26 sz24) rfl rfl rfl ?_
    refine Ops.loadAgg [vs a3.Name, vi a3.Kind, vi a3.From, vi a3.To] rfl Try.underlying24 rfl sz24 rfl (cells_of_zc rfl (f28.mono hst23.le)) rfl ?_
    obtain ⟨y29, hy29, hf⟩ := bnd hf
    refine Ops.call rfl rfl Try.func33 (by kernel_rfl) (by kernel_rfl) rfl (go_edits_Find_c1.walk (p0 := a3) (q0 := p1_0) (hst := hst23) (hf := hy29)) ?_
    rintro _ w29 ⟨z29, rfl, hz29, hst29⟩
    refine ⟨_, rfl, ?_⟩
    replace f1 := f1.mono hz29; replace f28 := f28.mono hz29
    replace hz23 := hz23.trans hz29
    refine Ops.nil ?_
    refine Run.cond rfl (fun hc => ?_) (fun hc => ?_)
    · replace hf := ifTb hc hf
      refine Run.seq ?_
      refine Run.region ?_
      refine Ops.ex (Ex.move rfl) rfl rfl rfl ?_
      refine Ops.ex (Ex.assign rfl) rfl rfl rfl ?_
      refine Ops.nil ?_
      obtain rfl := Option.some.inj hf
      exact Run.retV [vi (i3 : Int)] rfl ⟨rfl, trivial⟩ ⟨z29, rfl, hz23, hst29⟩
    · replace hf := ifFb hc hf
      refine Run.skip ?_
      refine Run.endBlk ?_
      refine Run.region ?_
      refine Ops.ex (Ex.add rfl rfl) rfl rfl rfl ?_
      refine Ops.ex (Ex.move rfl) rfl rfl rfl ?_
      refine Ops.nil ?_
      refine Run.re 8 rfl (congrArg vi (wr_succ' hl3 hc3)) ?_
      exact Run.sub (by exact subB_spec ⟨rfl, rfl, rfl, rfl, trivial⟩) (Run.stop ⟨p0.length - (i3 + 1), by omega, i3 + 1, z29, rfl, by omega, (hnxb3 _).symm.trans hf, rfl, hz23, hst29⟩)
  · replace hf := forL_out hf (nlt_of_dec hc)
    try dsimp only at hf
    refine Run.exit _ rfl ?_
    refine Run.seq ?_
    refine Run.region ?_
    refine Ops.ex (Ex.assign rfl) rfl rfl rfl ?_
    refine Ops.nil ?_
    obtain rfl := Option.some.inj hf
    exact Run.retV [vi (-1)] rfl ⟨rfl, trivial⟩ ⟨z22, rfl, hz23, hst23⟩
def go_edits_Find (p0 : editsSet) (p1 : Str) : Option Int :=
  (go_slices_IndexFunc_api_Ref_api_Ref_edits_Find_c1 p0.Refs p1).bind fun y6 => some y6
set_option maxRecDepth 100000 in
set_option maxHeartbeats 4000000 in
theorem go_edits_Find.walk {w0 w : World} {X : List Res} {z0 : Zp} {p0 : editsSet} {A1 : Option Addr} {c1 : Nat} {p1 : Str} {r : Int} (hst : Ht w0 (frz z0 :: X) w) (f1 : Sl tapiRef z0 A1 c1 p0.Refs) (hf : go_edits_Find p0 p1 = some r) :
    Calls Try.prog 16 #[.agg #[.slice A1 p0.Refs.length c1, vi p0.Floor], vs p1] w fun e w' => ∃ (z' : Zp), e = .returned (vi r) ∧ Le z0 z' ∧ Ht w0 (frz z' :: X) w' := by
  refine calls_np Try.func16 rfl rfl ?_
  have hle0 := Le.refl z0
  unfold go_edits_Find at hf
  refine Run.seq ?_
  refine Run.region ?_
  refine Ops.boxF [.slice A1 p0.Refs.length c1, vi p0.Floor] hst rfl rfl rfl (fun g4 w4 hst4 => ?_)
  refine Ops.boxF [vs p1] hst4 rfl rfl rfl (fun g5 w5 hst5 => ?_)
  refine Ops.ex (Ex.assign rfl) rfl rfl rfl ?_
  refine Ops.nil ?_
  refine Run.seq ?_
  refine Run.region ?_
  refine Ops.ex (Ex.fieldAddr rfl Try.underlying38 rfl sz26) rfl rfl rfl ?_
  refine Ops.load rfl Try.underlying26 rfl (hst5.cell (i := 2) rfl rfl) rfl ?_
  refine Ops.ex (Ex.funcE rfl rfl) rfl rfl rfl ?_
  obtain ⟨y6, hy6, hf⟩ := bnd hf
  refine Ops.call rfl rfl Try.func32 (by kernel_rfl) (by kernel_rfl) rfl (go_slices_IndexFunc_api_Ref_api_Ref_edits_Find_c1.walk (p0 := p0.Refs) (p1_0 := p1) (hst := hst5) (f1 := f1) (hf := hy6)) ?_
  rintro _ w6 ⟨z6, rfl, hz6, hst6⟩
  refine ⟨_, rfl, ?_⟩
  replace f1 := f1.mono hz6
  replace hle0 := hle0.trans hz6
  refine Ops.ex (Ex.assign rfl) rfl rfl rfl ?_
  refine Ops.nil ?_
  obtain rfl := Option.some.inj hf
  exact Run.retV [vi y6] rfl ⟨rfl, trivial⟩ ⟨z6, rfl, hle0, (St.forget (St.forget hst6 2) 1)⟩
def go_edits_May (p0 : apiRef) : Option Bool :=
  if p0.Name = [] then (some false) else (if (p0.Name.length : Int) ≤ 16 then (if 0 ≤ p0.Kind then (if p0.Kind < 3 then (if 0 ≤ p0.From then (if p0.From ≤ p0.To then (if p0.To ≤ 1048576 then (if p0.Kind = 0 then (some (decide (p0.From = p0.To))) else (some true)) else (some false)) else (some false)) else (some false)) else (some false)) else (some false)) else (some false))
set_option maxRecDepth 100000 in
set_option maxHeartbeats 4000000 in
theorem go_edits_May.walk {w0 w : World} {X : List Res} {z0 : Zp} {p0 : apiRef} {r : Bool} (hst : Ht w0 (frz z0 :: X) w) (hf : go_edits_May p0 = some r) :
    Calls Try.prog 13 #[.agg #[vs p0.Name, vi p0.Kind, vi p0.From, vi p0.To]] w fun e w' => ∃ (z' : Zp), e = .returned (vb r) ∧ Le z0 z' ∧ Ht w0 (frz z' :: X) w' := by
  refine calls_np Try.func13 rfl rfl ?_
  have hle0 := Le.refl z0
  unfold go_edits_May at hf
  refine Run.seq ?_
  refine Run.region ?_
  refine Ops.boxF [vs p0.Name, vi p0.Kind, vi p0.From, vi p0.To] hst rfl rfl rfl (fun g5 w5 hst5 => ?_)
  refine Ops.ex (Ex.assign rfl) rfl rfl rfl ?_
  refine Ops.nil ?_
  refine Run.seq ?_
  refine Run.region ?_
  refine Ops.ex (Ex.fieldAddr rfl Try.underlying24 rfl sz9) rfl rfl rfl ?_
  refine Ops.load rfl Try.underlying9 rfl (hst5.cell (i := 1) rfl rfl) rfl ?_
  refine Ops.ex (Ex.neqT (t := []) rfl rfl) rfl rfl rfl ?_
  refine Ops.ex (Ex.move rfl) rfl rfl rfl ?_
  refine Ops.case 6 rfl (fun hc => ?_) (fun hc => ?_)
  · replace hf := ifF (neq_T hc) hf
    refine Ops.on rfl ?_
    refine Ops.ex (Ex.fieldAddr rfl Try.underlying24 rfl sz9) rfl rfl rfl ?_
    refine Ops.on rfl ?_
    refine Ops.load rfl Try.underlying9 rfl (hst5.cell (i := 1) rfl rfl) rfl ?_
    refine Ops.on rfl ?_
    refine Ops.ex (Ex.lenT rfl rfl rfl Try.underlying9) rfl rfl rfl ?_
    refine Ops.on rfl ?_
    refine Ops.ex (Ex.leq rfl rfl) rfl rfl rfl ?_
    refine Ops.ex (Ex.pickT rfl rfl) rfl rfl rfl ?_
    refine Ops.ex (Ex.move rfl) rfl rfl rfl ?_
    refine Ops.case 12 rfl (fun hc => ?_) (fun hc => ?_)
    · replace hf := ifT (dec_T hc) hf
      refine Ops.on rfl ?_
      refine Ops.ex (Ex.fieldAddr rfl Try.underlying24 rfl sz22) rfl rfl rfl ?_
      refine Ops.on rfl ?_
      refine Ops.load rfl Try.underlying22 rfl (hst5.cell (i := 1) rfl rfl) rfl ?_
      refine Ops.on rfl ?_
      refine Ops.ex (Ex.geq rfl rfl) rfl rfl rfl ?_
      refine Ops.ex (Ex.pickT rfl rfl) rfl rfl rfl ?_
      refine Ops.ex (Ex.move rfl) rfl rfl rfl ?_
      refine Ops.case 17 rfl (fun hc => ?_) (fun hc => ?_)
      · replace hf := ifT (dec_T hc) hf
        refine Ops.on rfl ?_
        refine Ops.ex (Ex.fieldAddr rfl Try.underlying24 rfl sz22) rfl rfl rfl ?_
        refine Ops.on rfl ?_
        refine Ops.load rfl Try.underlying22 rfl (hst5.cell (i := 1) rfl rfl) rfl ?_
        refine Ops.on rfl ?_
        refine Ops.ex (Ex.lss rfl rfl) rfl rfl rfl ?_
        refine Ops.ex (Ex.pickT rfl rfl) rfl rfl rfl ?_
        refine Ops.ex (Ex.move rfl) rfl rfl rfl ?_
        refine Ops.case 22 rfl (fun hc => ?_) (fun hc => ?_)
        · replace hf := ifT (dec_T hc) hf
          refine Ops.on rfl ?_
          refine Ops.ex (Ex.fieldAddr rfl Try.underlying24 rfl sz3) rfl rfl rfl ?_
          refine Ops.on rfl ?_
          refine Ops.load rfl Try.underlying3 rfl (hst5.cell (i := 1) rfl rfl) rfl ?_
          refine Ops.on rfl ?_
          refine Ops.ex (Ex.geq rfl rfl) rfl rfl rfl ?_
          refine Ops.ex (Ex.pickT rfl rfl) rfl rfl rfl ?_
          refine Ops.ex (Ex.move rfl) rfl rfl rfl ?_
          refine Ops.case 27 rfl (fun hc => ?_) (fun hc => ?_)
          · replace hf := ifT (dec_T hc) hf
            refine Ops.on rfl ?_
            refine Ops.ex (Ex.fieldAddr rfl Try.underlying24 rfl sz3) rfl rfl rfl ?_
            refine Ops.on rfl ?_
            refine Ops.load rfl Try.underlying3 rfl (hst5.cell (i := 1) rfl rfl) rfl ?_
            refine Ops.on rfl ?_
            refine Ops.ex (Ex.fieldAddr rfl Try.underlying24 rfl sz3) rfl rfl rfl ?_
            refine Ops.on rfl ?_
            refine Ops.load rfl Try.underlying3 rfl (hst5.cell (i := 1) rfl rfl) rfl ?_
            refine Ops.on rfl ?_
            refine Ops.ex (Ex.leq rfl rfl) rfl rfl rfl ?_
            refine Ops.ex (Ex.pickT rfl rfl) rfl rfl rfl ?_
            refine Ops.ex (Ex.move rfl) rfl rfl rfl ?_
            refine Ops.case 34 rfl (fun hc => ?_) (fun hc => ?_)
            · replace hf := ifT (dec_T hc) hf
              refine Ops.on rfl ?_
              refine Ops.ex (Ex.fieldAddr rfl Try.underlying24 rfl sz3) rfl rfl rfl ?_
              refine Ops.on rfl ?_
              refine Ops.load rfl Try.underlying3 rfl (hst5.cell (i := 1) rfl rfl) rfl ?_
              refine Ops.on rfl ?_
              refine Ops.ex (Ex.leq rfl rfl) rfl rfl rfl ?_
              refine Ops.ex (Ex.pickT rfl rfl) rfl rfl rfl ?_
              refine Ops.ex (Ex.move rfl) rfl rfl rfl ?_
              refine Ops.case 39 rfl (fun hc => ?_) (fun hc => ?_)
              · replace hf := ifT (dec_T hc) hf
                refine Ops.on rfl ?_
                refine Ops.ex (Ex.fieldAddr rfl Try.underlying24 rfl sz22) rfl rfl rfl ?_
                refine Ops.on rfl ?_
                refine Ops.load rfl Try.underlying22 rfl (hst5.cell (i := 1) rfl rfl) rfl ?_
                refine Ops.on rfl ?_
                refine Ops.ex (Ex.neqI rfl rfl) rfl rfl rfl ?_
                refine Ops.on rfl ?_
                refine Ops.ex (Ex.move rfl) rfl rfl rfl ?_
                refine Ops.case 43 rfl (fun hc => ?_) (fun hc => ?_)
                · replace hf := ifF (neq_T hc) hf
                  refine Ops.off rfl rfl ?_
                  refine Ops.off rfl rfl ?_
                  refine Ops.off rfl rfl ?_
                  refine Ops.off rfl rfl ?_
                  refine Ops.off rfl rfl ?_
                  refine Ops.on rfl ?_
                  refine Ops.ex (Ex.pickT rfl rfl) rfl rfl rfl ?_
                  refine Ops.ex (Ex.pickT rfl rfl) rfl rfl rfl ?_
                  refine Ops.ex (Ex.assign rfl) rfl rfl rfl ?_
                  refine Ops.nil ?_
                  obtain rfl := Option.some.inj hf
                  exact Run.retV [vb true] rfl ⟨rfl, trivial⟩ ⟨z0, rfl, hle0, (St.forget hst5 1)⟩
                · replace hf := ifT (neq_F hc) hf
                  refine Ops.on rfl ?_
                  refine Ops.ex (Ex.fieldAddr rfl Try.underlying24 rfl sz3) rfl rfl rfl ?_
                  refine Ops.on rfl ?_
                  refine Ops.load rfl Try.underlying3 rfl (hst5.cell (i := 1) rfl rfl) rfl ?_
                  refine Ops.on rfl ?_
                  refine Ops.ex (Ex.fieldAddr rfl Try.underlying24 rfl sz3) rfl rfl rfl ?_
                  refine Ops.on rfl ?_
                  refine Ops.load rfl Try.underlying3 rfl (hst5.cell (i := 1) rfl rfl) rfl ?_
                  refine Ops.on rfl ?_
                  refine Ops.ex (Ex.eqlI rfl rfl) rfl rfl rfl ?_
                  refine Ops.on rfl ?_
                  refine Ops.ex (Ex.pickF rfl rfl) rfl rfl rfl ?_
                  refine Ops.ex (Ex.pickT rfl rfl) rfl rfl rfl ?_
                  refine Ops.ex (Ex.assign rfl) rfl rfl rfl ?_
                  refine Ops.nil ?_
                  obtain rfl := Option.some.inj hf
                  exact Run.retV [vb (decide (p0.From = p0.To))] rfl ⟨rfl, trivial⟩ ⟨z0, rfl, hle0, (St.forget hst5 1)⟩
              · replace hf := ifF (dec_F hc) hf
                refine Ops.off rfl rfl ?_
                refine Ops.off rfl rfl ?_
                refine Ops.off rfl rfl ?_
                refine Ops.off rfl rfl ?_
                refine Ops.offU rfl rfl ?_
                refine Ops.offU rfl rfl ?_
                refine Ops.offU rfl rfl ?_
                refine Ops.offU rfl rfl ?_
                refine Ops.offU rfl rfl ?_
                refine Ops.off rfl rfl ?_
                refine Ops.ex (Ex.pickF rfl rfl) rfl rfl rfl ?_
                refine Ops.ex (Ex.assign rfl) rfl rfl rfl ?_
                refine Ops.nil ?_
                obtain rfl := Option.some.inj hf
                exact Run.retV [vb false] rfl ⟨rfl, trivial⟩ ⟨z0, rfl, hle0, (St.forget hst5 1)⟩
            · replace hf := ifF (dec_F hc) hf
              refine Ops.off rfl rfl ?_
              refine Ops.off rfl rfl ?_
              refine Ops.off rfl rfl ?_
              refine Ops.ex (Ex.pickF rfl rfl) rfl rfl rfl ?_
              refine Ops.ex (Ex.move rfl) rfl rfl rfl ?_
              refine Ops.off rfl rfl ?_
              refine Ops.off rfl rfl ?_
              refine Ops.off rfl rfl ?_
              refine Ops.off rfl rfl ?_
              refine Ops.offU rfl rfl ?_
              refine Ops.offU rfl rfl ?_
              refine Ops.offU rfl rfl ?_
              refine Ops.offU rfl rfl ?_
              refine Ops.offU rfl rfl ?_
              refine Ops.off rfl rfl ?_
              refine Ops.ex (Ex.pickF rfl rfl) rfl rfl rfl ?_
              refine Ops.ex (Ex.assign rfl) rfl rfl rfl ?_
              refine Ops.nil ?_
              obtain rfl := Option.some.inj hf
              exact Run.retV [vb false] rfl ⟨rfl, trivial⟩ ⟨z0, rfl, hle0, (St.forget hst5 1)⟩
          · replace hf := ifF (dec_F hc) hf
            refine Ops.off rfl rfl ?_
            refine Ops.off rfl rfl ?_
            refine Ops.off rfl rfl ?_
            refine Ops.off rfl rfl ?_
            refine Ops.off rfl rfl ?_
            refine Ops.ex (Ex.pickF rfl rfl) rfl rfl rfl ?_
            refine Ops.ex (Ex.move rfl) rfl rfl rfl ?_
            refine Ops.off rfl rfl ?_
            refine Ops.off rfl rfl ?_
            refine Ops.off rfl rfl ?_
            refine Ops.ex (Ex.pickF rfl rfl) rfl rfl rfl ?_
            refine Ops.ex (Ex.move rfl) rfl rfl rfl ?_
            refine Ops.off rfl rfl ?_
            refine Ops.off rfl rfl ?_
            refine Ops.off rfl rfl ?_
            refine Ops.off rfl rfl ?_
            refine Ops.offU rfl rfl ?_
            refine Ops.offU rfl rfl ?_
            refine Ops.offU rfl rfl ?_
            refine Ops.offU rfl rfl ?_
            refine Ops.offU rfl rfl ?_
            refine Ops.off rfl rfl ?_
            refine Ops.ex (Ex.pickF rfl rfl) rfl rfl rfl ?_
            refine Ops.ex (Ex.assign rfl) rfl rfl rfl ?_
            refine Ops.nil ?_
            obtain rfl := Option.some.inj hf
            exact Run.retV [vb false] rfl ⟨rfl, trivial⟩ ⟨z0, rfl, hle0, (St.forget hst5 1)⟩
        · replace hf := ifF (dec_F hc) hf
          refine Ops.off rfl rfl ?_
          refine Ops.off rfl rfl ?_
          refine Ops.off rfl rfl ?_
          refine Ops.ex (Ex.pickF rfl rfl) rfl rfl rfl ?_
          refine Ops.ex (Ex.move rfl) rfl rfl rfl ?_
          refine Ops.off rfl rfl ?_
          refine Ops.off rfl rfl ?_
          refine Ops.off rfl rfl ?_
          refine Ops.off rfl rfl ?_
          refine Ops.off rfl rfl ?_
          refine Ops.ex (Ex.pickF rfl rfl) rfl rfl rfl ?_
          refine Ops.ex (Ex.move rfl) rfl rfl rfl ?_
          refine Ops.off rfl rfl ?_
          refine Ops.off rfl rfl ?_
          refine Ops.off rfl rfl ?_
          refine Ops.ex (Ex.pickF rfl rfl) rfl rfl rfl ?_
          refine Ops.ex (Ex.move rfl) rfl rfl rfl ?_
          refine Ops.off rfl rfl ?_
          refine Ops.off rfl rfl ?_
          refine Ops.off rfl rfl ?_
          refine Ops.off rfl rfl ?_
          refine Ops.offU rfl rfl ?_
          refine Ops.offU rfl rfl ?_
          refine Ops.offU rfl rfl ?_
          refine Ops.offU rfl rfl ?_
          refine Ops.offU rfl rfl ?_
          refine Ops.off rfl rfl ?_
          refine Ops.ex (Ex.pickF rfl rfl) rfl rfl rfl ?_
          refine Ops.ex (Ex.assign rfl) rfl rfl rfl ?_
          refine Ops.nil ?_
          obtain rfl := Option.some.inj hf
          exact Run.retV [vb false] rfl ⟨rfl, trivial⟩ ⟨z0, rfl, hle0, (St.forget hst5 1)⟩
      · replace hf := ifF (dec_F hc) hf
        refine Ops.off rfl rfl ?_
        refine Ops.off rfl rfl ?_
        refine Ops.off rfl rfl ?_
        refine Ops.ex (Ex.pickF rfl rfl) rfl rfl rfl ?_
        refine Ops.ex (Ex.move rfl) rfl rfl rfl ?_
        refine Ops.off rfl rfl ?_
        refine Ops.off rfl rfl ?_
        refine Ops.off rfl rfl ?_
        refine Ops.ex (Ex.pickF rfl rfl) rfl rfl rfl ?_
        refine Ops.ex (Ex.move rfl) rfl rfl rfl ?_
        refine Ops.off rfl rfl ?_
        refine Ops.off rfl rfl ?_
        refine Ops.off rfl rfl ?_
        refine Ops.off rfl rfl ?_
        refine Ops.off rfl rfl ?_
        refine Ops.ex (Ex.pickF rfl rfl) rfl rfl rfl ?_
        refine Ops.ex (Ex.move rfl) rfl rfl rfl ?_
        refine Ops.off rfl rfl ?_
        refine Ops.off rfl rfl ?_
        refine Ops.off rfl rfl ?_
        refine Ops.ex (Ex.pickF rfl rfl) rfl rfl rfl ?_
        refine Ops.ex (Ex.move rfl) rfl rfl rfl ?_
        refine Ops.off rfl rfl ?_
        refine Ops.off rfl rfl ?_
        refine Ops.off rfl rfl ?_
        refine Ops.off rfl rfl ?_
        refine Ops.offU rfl rfl ?_
        refine Ops.offU rfl rfl ?_
        refine Ops.offU rfl rfl ?_
        refine Ops.offU rfl rfl ?_
        refine Ops.offU rfl rfl ?_
        refine Ops.off rfl rfl ?_
        refine Ops.ex (Ex.pickF rfl rfl) rfl rfl rfl ?_
        refine Ops.ex (Ex.assign rfl) rfl rfl rfl ?_
        refine Ops.nil ?_
        obtain rfl := Option.some.inj hf
        exact Run.retV [vb false] rfl ⟨rfl, trivial⟩ ⟨z0, rfl, hle0, (St.forget hst5 1)⟩
    · replace hf := ifF (dec_F hc) hf
      refine Ops.off rfl rfl ?_
      refine Ops.off rfl rfl ?_
      refine Ops.off rfl rfl ?_
      refine Ops.ex (Ex.pickF rfl rfl) rfl rfl rfl ?_
      refine Ops.ex (Ex.move rfl) rfl rfl rfl ?_
      refine Ops.off rfl rfl ?_
      refine Ops.off rfl rfl ?_
      refine Ops.off rfl rfl ?_
      refine Ops.ex (Ex.pickF rfl rfl) rfl rfl rfl ?_
      refine Ops.ex (Ex.move rfl) rfl rfl rfl ?_
      refine Ops.off rfl rfl ?_
      refine Ops.off rfl rfl ?_
      refine Ops.off rfl rfl ?_
      refine Ops.ex (Ex.pickF rfl rfl) rfl rfl rfl ?_
      refine Ops.ex (Ex.move rfl) rfl rfl rfl ?_
      refine Ops.off rfl rfl ?_
      refine Ops.off rfl rfl ?_
      refine Ops.off rfl rfl ?_
      refine Ops.off rfl rfl ?_
      refine Ops.off rfl rfl ?_
      refine Ops.ex (Ex.pickF rfl rfl) rfl rfl rfl ?_
      refine Ops.ex (Ex.move rfl) rfl rfl rfl ?_
      refine Ops.off rfl rfl ?_
      refine Ops.off rfl rfl ?_
      refine Ops.off rfl rfl ?_
      refine Ops.ex (Ex.pickF rfl rfl) rfl rfl rfl ?_
      refine Ops.ex (Ex.move rfl) rfl rfl rfl ?_
      refine Ops.off rfl rfl ?_
      refine Ops.off rfl rfl ?_
      refine Ops.off rfl rfl ?_
      refine Ops.off rfl rfl ?_
      refine Ops.offU rfl rfl ?_
      refine Ops.offU rfl rfl ?_
      refine Ops.offU rfl rfl ?_
      refine Ops.offU rfl rfl ?_
      refine Ops.offU rfl rfl ?_
      refine Ops.off rfl rfl ?_
      refine Ops.ex (Ex.pickF rfl rfl) rfl rfl rfl ?_
      refine Ops.ex (Ex.assign rfl) rfl rfl rfl ?_
      refine Ops.nil ?_
      obtain rfl := Option.some.inj hf
      exact Run.retV [vb false] rfl ⟨rfl, trivial⟩ ⟨z0, rfl, hle0, (St.forget hst5 1)⟩
  · replace hf := ifT (neq_F hc) hf
    refine Ops.off rfl rfl ?_
    refine Ops.off rfl rfl ?_
    refine Ops.off rfl rfl ?_
    refine Ops.off rfl rfl ?_
    refine Ops.ex (Ex.pickF rfl rfl) rfl rfl rfl ?_
    refine Ops.ex (Ex.move rfl) rfl rfl rfl ?_
    refine Ops.off rfl rfl ?_
    refine Ops.off rfl rfl ?_
    refine Ops.off rfl rfl ?_
    refine Ops.ex (Ex.pickF rfl rfl) rfl rfl rfl ?_
    refine Ops.ex (Ex.move rfl) rfl rfl rfl ?_
    refine Ops.off rfl rfl ?_
    refine Ops.off rfl rfl ?_
    refine Ops.off rfl rfl ?_
    refine Ops.ex (Ex.pickF rfl rfl) rfl rfl rfl ?_
    refine Ops.ex (Ex.move rfl) rfl rfl rfl ?_
    refine Ops.off rfl rfl ?_
    refine Ops.off rfl rfl ?_
    refine Ops.off rfl rfl ?_
    refine Ops.ex (Ex.pickF rfl rfl) rfl rfl rfl ?_
    refine Ops.ex (Ex.move rfl) rfl rfl rfl ?_
    refine Ops.off rfl rfl ?_
    refine Ops.off rfl rfl ?_
    refine Ops.off rfl rfl ?_
    refine Ops.off rfl rfl ?_
    refine Ops.off rfl rfl ?_
    refine Ops.ex (Ex.pickF rfl rfl) rfl rfl rfl ?_
    refine Ops.ex (Ex.move rfl) rfl rfl rfl ?_
    refine Ops.off rfl rfl ?_
    refine Ops.off rfl rfl ?_
    refine Ops.off rfl rfl ?_
    refine Ops.ex (Ex.pickF rfl rfl) rfl rfl rfl ?_
    refine Ops.ex (Ex.move rfl) rfl rfl rfl ?_
    refine Ops.off rfl rfl ?_
    refine Ops.off rfl rfl ?_
    refine Ops.off rfl rfl ?_
    refine Ops.off rfl rfl ?_
    refine Ops.offU rfl rfl ?_
    refine Ops.offU rfl rfl ?_
    refine Ops.offU rfl rfl ?_
    refine Ops.offU rfl rfl ?_
    refine Ops.offU rfl rfl ?_
    refine Ops.off rfl rfl ?_
    refine Ops.ex (Ex.pickF rfl rfl) rfl rfl rfl ?_
    refine Ops.ex (Ex.assign rfl) rfl rfl rfl ?_
    refine Ops.nil ?_
    obtain rfl := Option.some.inj hf
    exact Run.retV [vb false] rfl ⟨rfl, trivial⟩ ⟨z0, rfl, hle0, (St.forget hst5 1)⟩
def go_edits_Do.b2 (x22 : Int) (i243 : Nat) (a243 : apiRef) : (List apiRef) → (List apiRef → Option (editsSet × Int)) → Option (editsSet × Int) :=
  fun l301 nxb243 => (go_edits_May a243).bind fun y310 => if y310 then ((go_edits_Find (⟨l301, x22⟩ : editsSet) a243.Name).bind fun y313 => if 0 ≤ y313 then (some ((⟨[], 0⟩ : editsSet), 5)) else ((apB 40 l301 [a243]).bind fun l319 => nxb243 l319)) else (some ((⟨[], 0⟩ : editsSet), 14))
def go_edits_Do.b1 (x22 : Int) (i33 : Nat) (a33 : Str) : (List apiRef) → (List apiRef → Option (editsSet × Int)) → Option (editsSet × Int) :=
  fun l231 nxb33 => (go_edits_Find (⟨l231, x22⟩ : editsSet) a33).bind fun y235 => if y235 < 0 then (some ((⟨[], 0⟩ : editsSet), 6)) else ((go_slices_Delete_api_Ref_api_Ref l231 y235 (wr (y235 + 1))).bind fun y240 => nxb33 y240)
def go_edits_Do.j1 (p0 : editsSet) (p1 : editsEdit) (l21 : List apiRef) (x22 : Int) : Option (editsSet × Int) :=
  forL (go_edits_Do.b1 x22) (fun l231 => forL (go_edits_Do.b2 x22) (fun l301 => if p1.Floor < p0.Floor then (some ((⟨[], 0⟩ : editsSet), 8)) else (if 1048576 < p1.Floor then (some ((⟨[], 0⟩ : editsSet), 8)) else ((S1.go_sortRef l301).bind fun y323 => some ((⟨y323, x22⟩ : editsSet), 0)))) 0 p1.Add l231) 0 p1.Drop l21
def go_edits_Do (p0 : editsSet) (p1 : editsEdit) : Option (editsSet × Int) :=
  (go_slices_Clone_api_Ref_api_Ref p0.Refs).bind fun y24 => go_edits_Do.j1 p0 p1 y24 p1.Floor
set_option maxRecDepth 100000 in
set_option maxHeartbeats 4000000 in
theorem go_edits_Do.walk {w0 w : World} {X : List Res} {z0 : Zp} {p0 : editsSet} {A1 : Option Addr} {c1 : Nat} {p1 : editsEdit} {A3 : Option Addr} {c3 : Nat} {A4 : Option Addr} {c4 : Nat} {r : editsSet × Int} (hst : Ht w0 (frz z0 :: X) w) (f1 : Sl tapiRef z0 A1 c1 p0.Refs) (f3 : Sl tapiRef z0 A3 c3 p1.Add) (f4 : Sl tS z0 A4 c4 p1.Drop) (hf : go_edits_Do p0 p1 = some r) :
    Calls Try.prog 15 #[.agg #[.slice A1 p0.Refs.length c1, vi p0.Floor], .agg #[.slice A3 p1.Add.length c3, .slice A4 p1.Drop.length c4, vi p1.Floor]] w fun e w' => ∃ (z' : Zp) (A9001 : Option Addr) (c9001 : Nat), e = .returned (.tuple #[.agg #[.slice A9001 r.1.Refs.length c9001, vi r.1.Floor], vi r.2]) ∧ Le z0 z' ∧ Sl tapiRef z' A9001 c9001 r.1.Refs ∧ Ht w0 (frz z' :: X) w' := by
  refine calls_np Try.func15 rfl rfl ?_
  have hle0 := Le.refl z0
  unfold go_edits_Do at hf
  refine Run.seq ?_
  refine Run.region ?_
  refine Ops.boxF [.slice A1 p0.Refs.length c1, vi p0.Floor] hst rfl rfl rfl (fun g6 w6 hst6 => ?_)
  refine Ops.boxF [.slice A3 p1.Add.length c3, .slice A4 p1.Drop.length c4, vi p1.Floor] hst6 rfl rfl rfl (fun g7 w7 hst7 => ?_)
  refine Ops.allocF [.slice none 0 0, vi 0] hst7 zr38 rfl rfl (fun g8 w8 hst8 => ?_)
  refine Ops.ex (Ex.assign rfl) rfl rfl rfl ?_
  refine Ops.nil ?_
  refine Run.seq ?_
  apply Run.jn (fun e' w' => ∃ (l21 : List apiRef) (x22 : Int) (g20 : Nat) (A21 : Option Addr) (c21 : Nat) (d21 : List Value) (z19 : Zp), go_edits_Do.j1 p0 p1 l21 x22 = some r ∧ e' = [(2, .pointer (some ⟨g6, 0, none⟩)), (3, .pointer (some ⟨g7, 0, none⟩)), (4, .pointer (some ⟨g8, 0, none⟩)), (6, .pointer (some ⟨g20, 0, none⟩))] ∧ Le z0 z19 ∧ Cs tapiRef z19 d21 l21 ∧ Ht w0 (frz z19 :: (orow 24 4 (.slice A21 l21.length c21) l21.length d21) :: (blk g8 [.slice none 0 0, vi 0] 38) :: (blk g7 [.slice A3 p1.Add.length c3, .slice A4 p1.Drop.length c4, vi p1.Floor] 29) :: (blk g6 [.slice A1 p0.Refs.length c1, vi p0.Floor] 38) :: (blk g20 [.slice A21 l21.length c21, vi x22] 38) :: X) w')
  · intro hj9
    refine Run.drawH [([], fun w => ∃ ζ Y, Le z0 ζ ∧ Ht w0 (frz ζ :: (blk g8 [.slice none 0 0, vi 0] 38) :: (blk g7 [.slice A3 p1.Add.length c3, .slice A4 p1.Drop.length c4, vi p1.Floor] 29) :: (blk g6 [.slice A1 p0.Refs.length c1, vi p0.Floor] 38) :: Y) w)] (by kernel_rfl) hst8 (fun w23 hst23 => ?_)
    have hS0 := (⟨_, _, (Le.refl _), (St.up (St.up (St.up (St.up hst23 3 rfl) 3 rfl) 3 rfl) 3 rfl)⟩ : (fun w => ∃ ζ Y, Le z0 ζ ∧ Ht w0 (frz ζ :: (blk g8 [.slice none 0 0, vi 0] 38) :: (blk g7 [.slice A3 p1.Add.length c3, .slice A4 p1.Drop.length c4, vi p1.Floor] 29) :: (blk g6 [.slice A1 p0.Refs.length c1, vi p0.Floor] 38) :: Y) w) _)
    refine Any.takeE 0 rfl rfl rfl rfl (by kernel_rfl) (fun _ _ _ _ _ h => h) ((Ex.fieldAddr rfl Try.underlying38 rfl sz26).s) ?_
    refine Any.take 0 1 rfl rfl rfl rfl rfl (by kernel_rfl) (fun _ _ _ _ _ h => h) (ExS.load rfl Try.underlying26 rfl (fun w hS => by obtain ⟨_, _, _, hs⟩ := hS; exact hs.cell (i := 3) rfl rfl)) hS0 ?_
    refine Any.takeE 3 rfl rfl rfl rfl (by kernel_rfl) (fun _ _ _ _ _ h => h) ((Ex.fieldAddr rfl Try.underlying29 rfl sz3).s) ?_
    refine Any.take 0 4 rfl rfl rfl rfl rfl (by kernel_rfl) (fun _ _ _ _ _ h => h) (ExS.load rfl Try.underlying3 rfl (fun w hS => by obtain ⟨_, _, _, hs⟩ := hS; exact hs.cell (i := 2) rfl rfl)) hS0 ?_
    refine Any.all [2, 6] (by kernel_rfl) rfl (fun i hi => ?_)
    simp only [List.mem_cons, List.not_mem_nil, or_false] at hi
    rcases hi with rfl | rfl
    · skip
      obtain ⟨y24, hy24, hf⟩ := bnd hf
      refine ⟨_, rfl, rfl, One.of_ops rfl ?_⟩
      refine Ops.call rfl rfl Try.func27 (by kernel_rfl) (by kernel_rfl) rfl (go_slices_Clone_api_Ref_api_Ref.walk (p0 := p0.Refs) (hst := hst23) (f1 := f1) (hf := hy24)) ?_
      rintro _ w24 ⟨z24, A25, c25, d25, rfl, hz24, f25, hst24⟩
      refine ⟨_, rfl, Ops.stop ?_⟩
      replace f1 := f1.mono hz24; replace f3 := f3.mono hz24; replace f4 := f4.mono hz24
      replace hle0 := hle0.trans hz24
      have hS0 := (⟨_, _, hle0, (St.up (St.up (St.up (St.up hst24 4 rfl) 4 rfl) 4 rfl) 3 rfl)⟩ : (fun w => ∃ ζ Y, Le z0 ζ ∧ Ht w0 (frz ζ :: (blk g8 [.slice none 0 0, vi 0] 38) :: (blk g7 [.slice A3 p1.Add.length c3, .slice A4 p1.Drop.length c4, vi p1.Floor] 29) :: (blk g6 [.slice A1 p0.Refs.length c1, vi p0.Floor] 38) :: Y) w) _)
      refine ⟨⟨.inr (fun _ => hS0), trivial⟩, ?_⟩
      refine Any.takeE 5 rfl rfl rfl rfl (by kernel_rfl) (fun _ _ _ _ _ h => h) ((Ex.build [.slice A25 y24.length c25, vi p1.Floor] rfl Try.underlying38 zr38 (pl38 Try.underlying38) (by kernel_rfl)).s) ?_
      refine Any.one 6 (by kernel_rfl) rfl rfl (One.of_ops rfl ?_)
      refine Ops.allocF [.slice none 0 0, vi 0] hst24 zr38 rfl rfl (fun g26 w26 hst26 => Ops.stop ?_)
      have hS0 := (⟨_, _, hle0, (St.up (St.up (St.up (St.up hst26 5 rfl) 5 rfl) 5 rfl) 3 rfl)⟩ : (fun w => ∃ ζ Y, Le z0 ζ ∧ Ht w0 (frz ζ :: (blk g8 [.slice none 0 0, vi 0] 38) :: (blk g7 [.slice A3 p1.Add.length c3, .slice A4 p1.Drop.length c4, vi p1.Floor] 29) :: (blk g6 [.slice A1 p0.Refs.length c1, vi p0.Floor] 38) :: Y) w) _)
      refine ⟨⟨.inr (fun _ => hS0), trivial⟩, ?_⟩
      refine Any.one 7 (by kernel_rfl) rfl rfl (One.of_ops rfl ?_)
      refine Ops.store 1 [.slice A25 y24.length c25, vi p1.Floor] hst26 rfl rfl rfl rfl sz38 rfl (by simp [Value.oneCell']) (by simp) (fun w27 hst27 => Ops.stop ?_)
      have hS0 := (⟨_, _, hle0, (St.up (St.up (St.up (St.up hst27 5 rfl) 5 rfl) 5 rfl) 3 rfl)⟩ : (fun w => ∃ ζ Y, Le z0 ζ ∧ Ht w0 (frz ζ :: (blk g8 [.slice none 0 0, vi 0] 38) :: (blk g7 [.slice A3 p1.Add.length c3, .slice A4 p1.Drop.length c4, vi p1.Floor] 29) :: (blk g6 [.slice A1 p0.Refs.length c1, vi p0.Floor] 38) :: Y) w) _)
      refine ⟨⟨.inr (fun _ => hS0), trivial⟩, ?_⟩
      refine Any.done (by kernel_rfl) ?_
      exact Run.sub (by exact subB_spec ⟨rfl, rfl, rfl, rfl, trivial⟩) (hj9 _ _ ⟨y24, p1.Floor, g26, A25, c25, d25, z24, hf, rfl, hle0, f25, (St.up (St.up (St.up (St.up (St.up (St.up hst27 1 rfl) 5 rfl) 5 rfl) 5 rfl) 5 rfl) 5 rfl)⟩)
    · skip
      refine ⟨_, rfl, rfl, One.of_ops rfl ?_⟩
      refine Ops.allocF [.slice none 0 0, vi 0] hst23 zr38 rfl rfl (fun g28 w28 hst28 => Ops.stop ?_)
      have hS0 := (⟨_, _, (Le.refl _), (St.up (St.up (St.up (St.up hst28 4 rfl) 4 rfl) 4 rfl) 3 rfl)⟩ : (fun w => ∃ ζ Y, Le z0 ζ ∧ Ht w0 (frz ζ :: (blk g8 [.slice none 0 0, vi 0] 38) :: (blk g7 [.slice A3 p1.Add.length c3, .slice A4 p1.Drop.length c4, vi p1.Floor] 29) :: (blk g6 [.slice A1 p0.Refs.length c1, vi p0.Floor] 38) :: Y) w) _)
      refine ⟨⟨.inr (fun _ => hS0), trivial⟩, ?_⟩
      obtain ⟨y29, hy29, hf⟩ := bnd hf
      refine Any.one 2 (by kernel_rfl) rfl rfl (One.of_ops rfl ?_)
      refine Ops.call rfl rfl Try.func27 (by kernel_rfl) (by kernel_rfl) rfl (go_slices_Clone_api_Ref_api_Ref.walk (p0 := p0.Refs) (hst := hst28) (f1 := f1) (hf := hy29)) ?_
      rintro _ w29 ⟨z29, A30, c30, d30, rfl, hz29, f30, hst29⟩
      refine ⟨_, rfl, Ops.stop ?_⟩
      replace f1 := f1.mono hz29; replace f3 := f3.mono hz29; replace f4 := f4.mono hz29
      replace hle0 := hle0.trans hz29
      have hS0 := (⟨_, _, hle0, (St.up (St.up (St.up (St.up hst29 5 rfl) 5 rfl) 5 rfl) 3 rfl)⟩ : (fun w => ∃ ζ Y, Le z0 ζ ∧ Ht w0 (frz ζ :: (blk g8 [.slice none 0 0, vi 0] 38) :: (blk g7 [.slice A3 p1.Add.length c3, .slice A4 p1.Drop.length c4, vi p1.Floor] 29) :: (blk g6 [.slice A1 p0.Refs.length c1, vi p0.Floor] 38) :: Y) w) _)
      refine ⟨⟨.inr (fun _ => hS0), trivial⟩, ?_⟩
      refine Any.takeE 5 rfl rfl rfl rfl (by kernel_rfl) (fun _ _ _ _ _ h => h) ((Ex.build [.slice A30 y29.length c30, vi p1.Floor] rfl Try.underlying38 zr38 (pl38 Try.underlying38) (by kernel_rfl)).s) ?_
      refine Any.one 7 (by kernel_rfl) rfl rfl (One.of_ops rfl ?_)
      refine Ops.store 2 [.slice A30 y29.length c30, vi p1.Floor] hst29 rfl rfl rfl rfl sz38 rfl (by simp [Value.oneCell']) (by simp) (fun w31 hst31 => Ops.stop ?_)
      have hS0 := (⟨_, _, hle0, (St.up (St.up (St.up (St.up hst31 5 rfl) 5 rfl) 5 rfl) 3 rfl)⟩ : (fun w => ∃ ζ Y, Le z0 ζ ∧ Ht w0 (frz ζ :: (blk g8 [.slice none 0 0, vi 0] 38) :: (blk g7 [.slice A3 p1.Add.length c3, .slice A4 p1.Drop.length c4, vi p1.Floor] 29) :: (blk g6 [.slice A1 p0.Refs.length c1, vi p0.Floor] 38) :: Y) w) _)
      refine ⟨⟨.inr (fun _ => hS0), trivial⟩, ?_⟩
      refine Any.done (by kernel_rfl) ?_
      exact Run.sub (by exact subB_spec ⟨rfl, rfl, rfl, rfl, trivial⟩) (hj9 _ _ ⟨y29, p1.Floor, g28, A30, c30, d30, z29, hf, rfl, hle0, f30, (St.up (St.up (St.up (St.up (St.up (St.up hst31 2 rfl) 5 rfl) 5 rfl) 5 rfl) 5 rfl) 5 rfl)⟩)
  · rintro e' w32 ⟨l21, x22, g20, A21, c21, d21, z19, hf, rfl, hz32, f21, hst32⟩
    replace f3 := f3.mono hz32; replace f4 := f4.mono hz32; replace f1 := f1.mono hz32
    unfold go_edits_Do.j1 at hf
    refine Run.seq ?_
    refine Run.seq ?_
    refine Run.region ?_
    refine Ops.ex (Ex.fieldAddr rfl Try.underlying29 rfl sz27) rfl rfl rfl ?_
    refine Ops.load rfl Try.underlying27 rfl (hst32.cell (i := 3) rfl rfl) rfl ?_
    refine Ops.ex (Ex.len' rfl rfl rfl Try.underlying27) rfl rfl rfl ?_
    refine Ops.ex (Ex.move rfl) rfl rfl rfl ?_
    refine Ops.nil ?_
    refine Run.block ?_
    have hc33 := f4.cap
    have hm34 := Le.refl z19
    refine Run.sub (e' := [(2, .pointer (some ⟨g6, 0, none⟩)), (3, .pointer (some ⟨g7, 0, none⟩)), (4, .pointer (some ⟨g8, 0, none⟩)), (6, .pointer (some ⟨g20, 0, none⟩)), (19, .slice A4 p1.Drop.length c4), (20, vi (p1.Drop.length : Int)), (21, vi ((0 : Nat) : Int))]) (subB_spec ⟨rfl, rfl, rfl, rfl, rfl, rfl, rfl, trivial⟩) ?_
    refine Run.loop (fun mb33 => (fun e' w' => ∃ (i33 : Nat) (l231 : List apiRef) (A231 : Option Addr) (c231 : Nat) (d231 : List Value) (z230 : Zp), mb33 = p1.Drop.length - i33 ∧ i33 ≤ p1.Drop.length ∧ forL (go_edits_Do.b1 x22) (fun l231 => forL (go_edits_Do.b2 x22) (fun l301 => if p1.Floor < p0.Floor then (some ((⟨[], 0⟩ : editsSet), 8)) else (if 1048576 < p1.Floor then (some ((⟨[], 0⟩ : editsSet), 8)) else ((S1.go_sortRef l301).bind fun y323 => some ((⟨y323, x22⟩ : editsSet), 0)))) 0 p1.Add l231) i33 (p1.Drop.drop i33) l231 = some r ∧ e' = [(2, .pointer (some ⟨g6, 0, none⟩)), (3, .pointer (some ⟨g7, 0, none⟩)), (4, .pointer (some ⟨g8, 0, none⟩)), (6, .pointer (some ⟨g20, 0, none⟩)), (19, .slice A4 p1.Drop.length c4), (20, vi (p1.Drop.length : Int)), (21, vi (i33 : Int))] ∧ Le z19 z230 ∧ Le z0 z230 ∧ Cs tapiRef z230 d231 l231 ∧ Ht w0 (frz z230 :: (orow 24 4 (.slice A231 l231.length c231) l231.length d231) :: (blk g8 [.slice none 0 0, vi 0] 38) :: (blk g7 [.slice A3 p1.Add.length c3, .slice A4 p1.Drop.length c4, vi p1.Floor] 29) :: (blk g6 [.slice A1 p0.Refs.length c1, vi p0.Floor] 38) :: (blk g20 [.slice A231 l231.length c231, vi x22] 38) :: X) w')) p1.Drop.length ⟨0, l21, A21, c21, d21, z19, rfl, Nat.zero_le _, hf, rfl, hm34, hz32, f21, hst32⟩ ?_
    rintro _ e' w232 ⟨i33, l231, A231, c231, d231, z230, rfl, hi33, hf, rfl, hz232, hy232_0, f231, hst232⟩
    replace f4 := f4.mono hz232; replace f3 := f3.mono hz232; replace f1 := f1.mono hz232
    refine Run.seq ?_
    refine Run.region ?_
    refine Ops.ex (Ex.lss rfl rfl) rfl rfl rfl ?_
    refine Ops.nil ?_
    refine Run.seq ?_
    refine Run.cond rfl (fun hc => ?_) (fun hc => ?_)
    · have hl33 := lt_of_dec hc
      obtain ⟨a33, nxb33, ha33, hnxb33, hf⟩ := forL_in hf hl33
      unfold go_edits_Do.b1 at hf
      try dsimp only at hf
      refine Run.skip ?_
      refine Run.seq ?_
      refine Run.block ?_
      refine Run.seq ?_
      refine Run.region ?_
      obtain ⟨g234, p234, o234, cs234, hA234, ho234, hr234, f234⟩ := SlH.elem f4.toH (atI_nat ha33)
      obtain rfl := hr234
      refine Ops.ex (Ex.ixA hA234 ho234 (atI_nat ha33) rfl rfl rfl Try.underlying27 sz9) rfl rfl rfl ?_
      refine Ops.load rfl Try.underlying9 rfl ((f234.mono hst232.le) 0 _ rfl) rfl ?_
      refine Ops.ex (Ex.assign rfl) rfl rfl rfl ?_
      refine Ops.nil ?_
      refine Run.seq ?_
      refine Run.region ?_
      refine Ops.loadAgg _ rfl Try.underlying38 rfl sz38 rfl (hst232.cells (i := 5) rfl 0 2) rfl ?_
      refine Ops.ex (Ex.move rfl) rfl rfl rfl ?_
      obtain ⟨z236, hz236, f236, hst236, hu236⟩ := St.lend (τ := tapiRef) (xs := l231) hst232 f231 rfl
      obtain ⟨y235, hy235, hf⟩ := bnd hf
      refine Ops.call rfl rfl Try.func16 (by kernel_rfl) (by kernel_rfl) rfl (go_edits_Find.walk (p0 := (⟨l231, x22⟩ : editsSet)) (p1 := a33) (hst := hst236) (f1 := f236) (hf := hy235)) ?_
      rintro _ w235 ⟨z235, rfl, hz235, hst235⟩
      obtain ⟨z238, hz238, hst238⟩ := hu236 _ _ _ hz235 hst235
      refine ⟨_, rfl, ?_⟩
      replace f4 := f4.mono hz238; replace f234 := f234.mono hz238; replace f231 := f231.mono hz238; replace f3 := f3.mono hz238; replace f1 := f1.mono hz238
      replace hy232_0 := hy232_0.trans hz238
      replace hz232 := hz232.trans hz238
      refine Ops.ex (Ex.assign rfl) rfl rfl rfl ?_
      refine Ops.nil ?_
      refine Run.seq ?_
      refine Run.seq ?_
      refine Run.region ?_
      refine Ops.ex (Ex.move rfl) rfl rfl rfl ?_
      refine Ops.ex (Ex.lss rfl rfl) rfl rfl rfl ?_
      refine Ops.nil ?_
      refine Run.cond rfl (fun hc => ?_) (fun hc => ?_)
      · replace hf := ifT (dec_T hc) hf
        refine Run.seq ?_
        refine Run.region ?_
        refine Ops.ex (Ex.build [.slice none 0 0, vi 0] rfl Try.underlying38 zr38 (pl38 Try.underlying38) (by kernel_rfl)) rfl rfl rfl ?_
        refine Ops.store 2 [.slice none 0 0, vi 0] hst238 rfl rfl rfl rfl sz38 rfl (by simp [Value.oneCell']) (by simp) (fun w239 hst239 => ?_)
        refine Ops.ex (Ex.assign rfl) rfl rfl rfl ?_
        refine Ops.nil ?_
        obtain rfl := Option.some.inj hf
        exact Run.retV [.agg #[.slice none 0 0, vi 0], vi 6] rfl ⟨⟨_, rfl, run_loadN _ Try.underlying38 rfl sz38 rfl (hst239.cells (i := 2) rfl 0 2)⟩, rfl, trivial⟩ ⟨z238, none, 0, rfl, hy232_0, (Sl.nil _ _), (St.forget (St.forget (St.forget (St.forget (St.forget hst239 5) 4) 3) 2) 1)⟩
      · replace hf := ifF (dec_F hc) hf
        refine Run.skip ?_
        refine Run.region ?_
        refine Ops.ex (Ex.fieldAddr rfl Try.underlying38 rfl sz26) rfl rfl rfl ?_
        refine Ops.load rfl Try.underlying26 rfl (hst238.cell (i := 5) rfl rfl) rfl ?_
        refine Ops.ex (Ex.move rfl) rfl rfl rfl ?_
        refine Ops.ex (Ex.move rfl) rfl rfl rfl ?_
        refine Ops.ex (Ex.add rfl rfl) rfl rfl rfl ?_
        obtain ⟨y240, hy240, hf⟩ := bnd hf
        refine Ops.call rfl rfl Try.func28 (by kernel_rfl) (by kernel_rfl) rfl (go_slices_Delete_api_Ref_api_Ref.walk (p0 := l231) (p1 := y235) (p2 := wr (y235 + 1)) (hst := hst238) (f1 := f231) (hf := hy240)) ?_
        rintro _ w240 ⟨z240, A241, c241, d241, rfl, hz240, f241, hst240⟩
        refine ⟨_, rfl, ?_⟩
        replace f4 := f4.mono hz240; replace f234 := f234.mono hz240; replace f3 := f3.mono hz240; replace f1 := f1.mono hz240
        replace hy232_0 := hy232_0.trans hz240
        replace hz232 := hz232.trans hz240
        refine Ops.ex (Ex.fieldAddr rfl Try.underlying38 rfl sz26) rfl rfl rfl ?_
        refine Ops.store 5 [.slice A241 y240.length c241] hst240 rfl rfl rfl rfl sz26 rfl (by simp [Value.oneCell']) (by simp) (fun w242 hst242 => ?_)
        refine Ops.nil ?_
        refine Run.endBlk ?_
        refine Run.region ?_
        refine Ops.ex (Ex.add rfl rfl) rfl rfl rfl ?_
        refine Ops.ex (Ex.move rfl) rfl rfl rfl ?_
        refine Ops.nil ?_
        refine Run.re 21 rfl (congrArg vi (wr_succ' hl33 hc33)) ?_
        exact Run.sub (by exact subB_spec ⟨rfl, rfl, rfl, rfl, rfl, rfl, rfl, trivial⟩) (Run.stop ⟨p1.Drop.length - (i33 + 1), by omega, i33 + 1, y240, A241, c241, d241, z240, rfl, by omega, (hnxb33 _).symm.trans hf, rfl, hz232, hy232_0, f241, hst242⟩)
    · replace hf := forL_out hf (nlt_of_dec hc)
      try dsimp only at hf
      refine Run.exit _ rfl ?_
      refine Run.seq ?_
      refine Run.seq ?_
      refine Run.region ?_
      refine Ops.ex (Ex.fieldAddr rfl Try.underlying29 rfl sz26) rfl rfl rfl ?_
      refine Ops.load rfl Try.underlying26 rfl (hst232.cell (i := 3) rfl rfl) rfl ?_
      refine Ops.ex (Ex.len' rfl rfl rfl Try.underlying26) rfl rfl rfl ?_
      refine Ops.ex (Ex.move rfl) rfl rfl rfl ?_
      refine Ops.nil ?_
      refine Run.block ?_
      have hc243 := f3.cap
      have hm244 := Le.refl z230
      refine Run.sub (e' := [(2, .pointer (some ⟨g6, 0, none⟩)), (3, .pointer (some ⟨g7, 0, none⟩)), (4, .pointer (some ⟨g8, 0, none⟩)), (6, .pointer (some ⟨g20, 0, none⟩)), (40, .slice A3 p1.Add.length c3), (41, vi (p1.Add.length : Int)), (42, vi ((0 : Nat) : Int))]) (subB_spec ⟨rfl, rfl, rfl, rfl, rfl, rfl, rfl, trivial⟩) ?_
      refine Run.loop (fun mb243 => (fun e' w' => ∃ (i243 : Nat) (l301 : List apiRef) (A301 : Option Addr) (c301 : Nat) (d301 : List Value) (z300 : Zp), mb243 = p1.Add.length - i243 ∧ i243 ≤ p1.Add.length ∧ forL (go_edits_Do.b2 x22) (fun l301 => if p1.Floor < p0.Floor then (some ((⟨[], 0⟩ : editsSet), 8)) else (if 1048576 < p1.Floor then (some ((⟨[], 0⟩ : editsSet), 8)) else ((S1.go_sortRef l301).bind fun y323 => some ((⟨y323, x22⟩ : editsSet), 0)))) i243 (p1.Add.drop i243) l301 = some r ∧ e' = [(2, .pointer (some ⟨g6, 0, none⟩)), (3, .pointer (some ⟨g7, 0, none⟩)), (4, .pointer (some ⟨g8, 0, none⟩)), (6, .pointer (some ⟨g20, 0, none⟩)), (40, .slice A3 p1.Add.length c3), (41, vi (p1.Add.length : Int)), (42, vi (i243 : Int))] ∧ Le z230 z300 ∧ Le z0 z300 ∧ Le z19 z300 ∧ Cs tapiRef z300 d301 l301 ∧ Ht w0 (frz z300 :: (orow 24 4 (.slice A301 l301.length c301) l301.length d301) :: (blk g8 [.slice none 0 0, vi 0] 38) :: (blk g7 [.slice A3 p1.Add.length c3, .slice A4 p1.Drop.length c4, vi p1.Floor] 29) :: (blk g6 [.slice A1 p0.Refs.length c1, vi p0.Floor] 38) :: (blk g20 [.slice A301 l301.length c301, vi x22] 38) :: X) w')) p1.Add.length ⟨0, l231, A231, c231, d231, z230, rfl, Nat.zero_le _, hf, rfl, hm244, hy232_0, hz232, f231, hst232⟩ ?_
      rintro _ e' w302 ⟨i243, l301, A301, c301, d301, z300, rfl, hi243, hf, rfl, hz302, hy302_0, hy302_1, f301, hst302⟩
      replace f3 := f3.mono hz302; replace f4 := f4.mono hz302; replace f1 := f1.mono hz302
      refine Run.seq ?_
      refine Run.region ?_
      refine Ops.ex (Ex.lss rfl rfl) rfl rfl rfl ?_
      refine Ops.nil ?_
      refine Run.seq ?_
      refine Run.cond rfl (fun hc => ?_) (fun hc => ?_)
      · have hl243 := lt_of_dec hc
        obtain ⟨a243, nxb243, ha243, hnxb243, hf⟩ := forL_in hf hl243
        unfold go_edits_Do.b2 at hf
        try dsimp only at hf
        refine Run.skip ?_
        refine Run.seq ?_
        refine Run.block ?_
        refine Run.seq ?_
        refine Run.region ?_
        obtain ⟨g307, p307, o307, cs307, hA307, ho307, hr307, f307⟩ := SlH.elem f3.toH (atI_nat ha243)
        obtain rfl := hr307
        refine Ops.ex (Ex.ixA hA307 ho307 (atI_nat ha243) rfl rfl rfl Try.underlying26 sz24) rfl rfl rfl ?_
        refine Ops.loadAgg [vs a243.Name, vi a243.Kind, vi a243.From, vi a243.To] rfl Try.underlying24 rfl sz24 rfl (cells_of_zc rfl (f307.mono hst302.le)) rfl ?_
        refine Ops.allocF [vs [], vi 0, vi 0, vi 0] hst302 zr24 rfl rfl (fun g308 w308 hst308 => ?_)
        refine Ops.store 1 [vs a243.Name, vi a243.Kind, vi a243.From, vi a243.To] hst308 rfl rfl rfl rfl sz24 rfl (by simp [Value.oneCell']) (by simp) (fun w309 hst309 => ?_)
        refine Ops.nil ?_
        refine Run.seq ?_
        refine Run.block ?_
        refine Run.seq ?_
        refine Run.region ?_
        refine Ops.loadAgg _ rfl Try.underlying24 rfl sz24 rfl (hst309.cells (i := 1) rfl 0 4) rfl ?_
        obtain ⟨y310, hy310, hf⟩ := bnd hf
        refine Ops.call rfl rfl Try.func13 (by kernel_rfl) (by kernel_rfl) rfl (go_edits_May.walk (p0 := a243) (hst := hst309) (hf := hy310)) ?_
        rintro _ w310 ⟨z310, rfl, hz310, hst310⟩
        refine ⟨_, rfl, ?_⟩
        replace f3 := f3.mono hz310; replace f307 := f307.mono hz310; replace f301 := f301.mono hz310; replace f4 := f4.mono hz310; replace f1 := f1.mono hz310
        replace hy302_0 := hy302_0.trans hz310
        replace hy302_1 := hy302_1.trans hz310
        replace hz302 := hz302.trans hz310
        refine Ops.ex (Ex.not rfl) rfl rfl rfl ?_
        refine Ops.ex (Ex.assign rfl) rfl rfl rfl ?_
        refine Ops.nil ?_
        refine Run.cond rfl (fun hc => ?_) (fun hc => ?_)
        · replace hf := ifFb (bn_T hc) hf
          refine Run.seq ?_
          refine Run.region ?_
          refine Ops.ex (Ex.build [.slice none 0 0, vi 0] rfl Try.underlying38 zr38 (pl38 Try.underlying38) (by kernel_rfl)) rfl rfl rfl ?_
          refine Ops.store 3 [.slice none 0 0, vi 0] hst310 rfl rfl rfl rfl sz38 rfl (by simp [Value.oneCell']) (by simp) (fun w312 hst312 => ?_)
          refine Ops.ex (Ex.assign rfl) rfl rfl rfl ?_
          refine Ops.nil ?_
          obtain rfl := Option.some.inj hf
          exact Run.retV [.agg #[.slice none 0 0, vi 0], vi 14] rfl ⟨⟨_, rfl, run_loadN _ Try.underlying38 rfl sz38 rfl (hst312.cells (i := 3) rfl 0 2)⟩, rfl, trivial⟩ ⟨z310, none, 0, rfl, hy302_0, (Sl.nil _ _), (St.forget (St.forget (St.forget (St.forget (St.forget (St.forget hst312 6) 5) 4) 3) 2) 1)⟩
        · replace hf := ifTb (bn_F hc) hf
          refine Run.seq ?_
          refine Run.region ?_
          refine Ops.loadAgg _ rfl Try.underlying38 rfl sz38 rfl (hst310.cells (i := 6) rfl 0 2) rfl ?_
          refine Ops.ex (Ex.fieldAddr rfl Try.underlying24 rfl sz9) rfl rfl rfl ?_
          refine Ops.load rfl Try.underlying9 rfl (hst310.cell (i := 1) rfl rfl) rfl ?_
          obtain ⟨z314, hz314, f314, hst314, hu314⟩ := St.lend (τ := tapiRef) (xs := l301) (St.up (St.up (St.up (St.up (St.up (St.up (St.up hst310 6 rfl) 6 rfl) 6 rfl) 6 rfl) 5 rfl) 6 rfl) 6 rfl) f301 rfl
          obtain ⟨y313, hy313, hf⟩ := bnd hf
          refine Ops.call rfl rfl Try.func16 (by kernel_rfl) (by kernel_rfl) rfl (go_edits_Find.walk (p0 := (⟨l301, x22⟩ : editsSet)) (p1 := a243.Name) (hst := hst314) (f1 := f314) (hf := hy313)) ?_
          rintro _ w313 ⟨z313, rfl, hz313, hst313⟩
          obtain ⟨z316, hz316, hst316⟩ := hu314 _ _ _ hz313 hst313
          refine ⟨_, rfl, ?_⟩
          replace f3 := f3.mono hz316; replace f307 := f307.mono hz316; replace f301 := f301.mono hz316; replace f4 := f4.mono hz316; replace f1 := f1.mono hz316
          replace hy302_0 := hy302_0.trans hz316
          replace hy302_1 := hy302_1.trans hz316
          replace hz302 := hz302.trans hz316
          refine Ops.ex (Ex.geq rfl rfl) rfl rfl rfl ?_
          refine Ops.ex (Ex.assign rfl) rfl rfl rfl ?_
          refine Ops.nil ?_
          refine Run.cond rfl (fun hc => ?_) (fun hc => ?_)
          · replace hf := ifT (dec_T hc) hf
            refine Run.seq ?_
            refine Run.region ?_
            refine Ops.ex (Ex.build [.slice none 0 0, vi 0] rfl Try.underlying38 zr38 (pl38 Try.underlying38) (by kernel_rfl)) rfl rfl rfl ?_
            refine Ops.store 3 [.slice none 0 0, vi 0] hst316 rfl rfl rfl rfl sz38 rfl (by simp [Value.oneCell']) (by simp) (fun w317 hst317 => ?_)
            refine Ops.ex (Ex.assign rfl) rfl rfl rfl ?_
            refine Ops.nil ?_
            obtain rfl := Option.some.inj hf
            exact Run.retV [.agg #[.slice none 0 0, vi 0], vi 5] rfl ⟨⟨_, rfl, run_loadN _ Try.underlying38 rfl sz38 rfl (hst317.cells (i := 3) rfl 0 2)⟩, rfl, trivial⟩ ⟨z316, none, 0, rfl, hy302_0, (Sl.nil _ _), (St.forget (St.forget (St.forget (St.forget (St.forget (St.forget hst317 6) 5) 4) 3) 2) 1)⟩
          · replace hf := ifF (dec_F hc) hf
            refine Run.skip ?_
            refine Run.endBlk ?_
            refine Run.region ?_
            refine Ops.ex (Ex.fieldAddr rfl Try.underlying38 rfl sz26) rfl rfl rfl ?_
            refine Ops.load rfl Try.underlying26 rfl (hst316.cell (i := 6) rfl rfl) rfl ?_
            refine Ops.loadAgg _ rfl Try.underlying24 rfl sz24 rfl (hst316.cells (i := 2) rfl 0 4) rfl ?_
            refine Ops.sliceF [vs a243.Name, vi a243.Kind, vi a243.From, vi a243.To] hst316 rfl Try.underlying26 sz24 zr24 rfl rfl (by kernel_rfl) rfl (by simp [Value.oneCell']) rfl (fun A318 w318 hst318 => ?_)
            have f318 : Cs tapiRef z316 [vs a243.Name, vi a243.Kind, vi a243.From, vi a243.To] [a243] := (Cs.cons (c := [vs a243.Name, vi a243.Kind, vi a243.From, vi a243.To]) rfl (Cs.nil _ _))
            obtain ⟨l319, hy319, hf⟩ := bnd hf
            refine Ops.app 2 hst318 rfl f301 rfl (own_slh f318 rfl (hst318.get (i := 1) rfl)) rfl hy319 rfl rfl rfl rfl Try.underlying26 inf24 rfl (by decide) (by decide) rfl (fun A319 c319 d319 w319 f319 hst319 => ?_)
            refine Ops.ex (Ex.fieldAddr rfl Try.underlying38 rfl sz26) rfl rfl rfl ?_
            refine Ops.store 7 [.slice A319 l319.length c319] hst319 rfl rfl rfl rfl sz26 rfl (by simp [Value.oneCell']) (by simp) (fun w320 hst320 => ?_)
            refine Ops.nil ?_
            refine Run.endBlk ?_
            refine Run.region ?_
            refine Ops.ex (Ex.add rfl rfl) rfl rfl rfl ?_
            refine Ops.ex (Ex.move rfl) rfl rfl rfl ?_
            refine Ops.nil ?_
            refine Run.re 42 rfl (congrArg vi (wr_succ' hl243 hc243)) ?_
            exact Run.sub (by exact subB_spec ⟨rfl, rfl, rfl, rfl, rfl, rfl, rfl, trivial⟩) (Run.stop ⟨p1.Add.length - (i243 + 1), by omega, i243 + 1, l319, A319, c319, d319, z316, rfl, by omega, (hnxb243 _).symm.trans hf, rfl, hz302, hy302_0, hy302_1, f319, (St.forget (St.forget hst320 3) 1)⟩)
      · replace hf := forL_out hf (nlt_of_dec hc)
        try dsimp only at hf
        refine Run.exit _ rfl ?_
        refine Run.seq ?_
        refine Run.seq ?_
        refine Run.region ?_
        refine Ops.ex (Ex.fieldAddr rfl Try.underlying29 rfl sz3) rfl rfl rfl ?_
        refine Ops.load rfl Try.underlying3 rfl (hst302.cell (i := 3) rfl rfl) rfl ?_
        refine Ops.ex (Ex.fieldAddr rfl Try.underlying38 rfl sz3) rfl rfl rfl ?_
        refine Ops.load rfl Try.underlying3 rfl (hst302.cell (i := 4) rfl rfl) rfl ?_
        refine Ops.ex (Ex.lss rfl rfl) rfl rfl rfl ?_
        refine Ops.ex (Ex.move rfl) rfl rfl rfl ?_
        refine Ops.case 70 rfl (fun hc => ?_) (fun hc => ?_)
        · replace hf := ifT (dec_T hc) hf
          refine Ops.off rfl rfl ?_
          refine Ops.off rfl rfl ?_
          refine Ops.off rfl rfl ?_
          refine Ops.ex (Ex.pickT rfl rfl) rfl rfl rfl ?_
          refine Ops.nil ?_
          refine Run.condT rfl rfl ?_
          refine Run.seq ?_
          refine Run.region ?_
          refine Ops.ex (Ex.build [.slice none 0 0, vi 0] rfl Try.underlying38 zr38 (pl38 Try.underlying38) (by kernel_rfl)) rfl rfl rfl ?_
          refine Ops.store 2 [.slice none 0 0, vi 0] hst302 rfl rfl rfl rfl sz38 rfl (by simp [Value.oneCell']) (by simp) (fun w321 hst321 => ?_)
          refine Ops.ex (Ex.assign rfl) rfl rfl rfl ?_
          refine Ops.nil ?_
          obtain rfl := Option.some.inj hf
          exact Run.retV [.agg #[.slice none 0 0, vi 0], vi 8] rfl ⟨⟨_, rfl, run_loadN _ Try.underlying38 rfl sz38 rfl (hst321.cells (i := 2) rfl 0 2)⟩, rfl, trivial⟩ ⟨z300, none, 0, rfl, hy302_0, (Sl.nil _ _), (St.forget (St.forget (St.forget (St.forget (St.forget hst321 5) 4) 3) 2) 1)⟩
        · replace hf := ifF (dec_F hc) hf
          refine Ops.on rfl ?_
          refine Ops.ex (Ex.fieldAddr rfl Try.underlying29 rfl sz3) rfl rfl rfl ?_
          refine Ops.on rfl ?_
          refine Ops.load rfl Try.underlying3 rfl (hst302.cell (i := 3) rfl rfl) rfl ?_
          refine Ops.on rfl ?_
          refine Ops.ex (Ex.gtr rfl rfl) rfl rfl rfl ?_
          refine Ops.ex (Ex.pickF rfl rfl) rfl rfl rfl ?_
          refine Ops.nil ?_
          refine Run.cond rfl (fun hc => ?_) (fun hc => ?_)
          · replace hf := ifT (dec_T hc) hf
            refine Run.seq ?_
            refine Run.region ?_
            refine Ops.ex (Ex.build [.slice none 0 0, vi 0] rfl Try.underlying38 zr38 (pl38 Try.underlying38) (by kernel_rfl)) rfl rfl rfl ?_
            refine Ops.store 2 [.slice none 0 0, vi 0] hst302 rfl rfl rfl rfl sz38 rfl (by simp [Value.oneCell']) (by simp) (fun w322 hst322 => ?_)
            refine Ops.ex (Ex.assign rfl) rfl rfl rfl ?_
            refine Ops.nil ?_
            obtain rfl := Option.some.inj hf
            exact Run.retV [.agg #[.slice none 0 0, vi 0], vi 8] rfl ⟨⟨_, rfl, run_loadN _ Try.underlying38 rfl sz38 rfl (hst322.cells (i := 2) rfl 0 2)⟩, rfl, trivial⟩ ⟨z300, none, 0, rfl, hy302_0, (Sl.nil _ _), (St.forget (St.forget (St.forget (St.forget (St.forget hst322 5) 4) 3) 2) 1)⟩
          · replace hf := ifF (dec_F hc) hf
            refine Run.skip ?_
            refine Run.seq ?_
            refine Run.region ?_
            refine Ops.ex (Ex.fieldAddr rfl Try.underlying38 rfl sz26) rfl rfl rfl ?_
            refine Ops.load rfl Try.underlying26 rfl (hst302.cell (i := 5) rfl rfl) rfl ?_
            obtain ⟨y323, hy323, hf⟩ := bnd hf
            refine Ops.call rfl rfl Try.func29 (by kernel_rfl) (by kernel_rfl) rfl (S1.go_sortRef.walk (p0 := l301) (hst := hst302) (f1 := f301) (hn1 := rfl) (hf := hy323)) ?_
            rintro _ w323 ⟨z323, d324, rfl, hz323, f324, hn324, hst323⟩
            refine ⟨_, rfl, ?_⟩
            replace f3 := f3.mono hz323; replace f4 := f4.mono hz323; replace f1 := f1.mono hz323
            replace hy302_0 := hy302_0.trans hz323
            replace hy302_1 := hy302_1.trans hz323
            replace hz302 := hz302.trans hz323
            refine Ops.nil ?_
            refine Run.seq ?_
            refine Run.region ?_
            refine Ops.loadAgg _ rfl Try.underlying38 rfl sz38 rfl (hst323.cells (i := 5) rfl 0 2) rfl ?_
            refine Ops.store 2 [.slice A301 l301.length c301, vi x22] hst323 rfl rfl rfl rfl sz38 rfl (by simp [Value.oneCell']) (by simp) (fun w325 hst325 => ?_)
            refine Ops.ex (Ex.assign rfl) rfl rfl rfl ?_
            refine Ops.nil ?_
            obtain ⟨z326, hz326, f326, hst326⟩ := St.freeze (τ := tapiRef) (xs := y323) hst325 f324 hn324
            replace f3 := f3.mono hz326; replace f4 := f4.mono hz326; replace f1 := f1.mono hz326
            replace hy302_0 := hy302_0.trans hz326
            replace hy302_1 := hy302_1.trans hz326
            replace hz302 := hz302.trans hz326
            have hst327 : Ht w0 (frz z326 :: (blk g8 [.slice A301 l301.length c301, vi x22] 38) :: (blk g7 [.slice A3 p1.Add.length c3, .slice A4 p1.Drop.length c4, vi p1.Floor] 29) :: (blk g6 [.slice A1 p0.Refs.length c1, vi p0.Floor] 38) :: (blk g20 [.slice A301 l301.length c301, vi x22] 38) :: X) _ := hst326
            rw [← hn324] at hst327
            obtain rfl := Option.some.inj hf
            exact Run.retV [.agg #[.slice A301 y323.length c301, vi x22], vi 0] rfl ⟨⟨_, rfl, run_loadN _ Try.underlying38 rfl sz38 rfl (hst327.cells (i := 1) rfl 0 2)⟩, rfl, trivial⟩ ⟨z326, A301, c301, rfl, hy302_0, f326, (St.forget (St.forget (St.forget (St.forget hst327 4) 3) 2) 1)⟩
def go_edits_All (p0 : editsSet) : Option editsEdit :=
  (go_slices_Clone_api_Ref_api_Ref p0.Refs).bind fun y6 => some (⟨y6, [], p0.Floor⟩ : editsEdit)
set_option maxRecDepth 100000 in
set_option maxHeartbeats 4000000 in
theorem go_edits_All.walk {w0 w : World} {X : List Res} {z0 : Zp} {p0 : editsSet} {A1 : Option Addr} {c1 : Nat} {r : editsEdit} (hst : Ht w0 (frz z0 :: X) w) (f1 : Sl tapiRef z0 A1 c1 p0.Refs) (hf : go_edits_All p0 = some r) :
    Calls Try.prog 17 #[.agg #[.slice A1 p0.Refs.length c1, vi p0.Floor]] w fun e w' => ∃ (z' : Zp) (A9001 : Option Addr) (c9001 : Nat) (A9002 : Option Addr) (c9002 : Nat), e = .returned (.agg #[.slice A9001 r.Add.length c9001, .slice A9002 r.Drop.length c9002, vi r.Floor]) ∧ Le z0 z' ∧ Sl tapiRef z' A9001 c9001 r.Add ∧ Sl tS z' A9002 c9002 r.Drop ∧ Ht w0 (frz z' :: X) w' := by
  refine calls_np Try.func17 rfl rfl ?_
  have hle0 := Le.refl z0
  unfold go_edits_All at hf
  refine Run.seq ?_
  refine Run.region ?_
  refine Ops.boxF [.slice A1 p0.Refs.length c1, vi p0.Floor] hst rfl rfl rfl (fun g3 w3 hst3 => ?_)
  refine Ops.allocF [.slice none 0 0, .slice none 0 0, vi 0] hst3 zr29 rfl rfl (fun g4 w4 hst4 => ?_)
  refine Ops.nil ?_
  refine Run.seq ?_
  refine Run.drawH [([], fun w => ∃ ζ Y, Le z0 ζ ∧ Ht w0 (frz ζ :: (blk g3 [.slice A1 p0.Refs.length c1, vi p0.Floor] 38) :: Y) w), ([6], fun w => ∃ ζ Y, Le z0 ζ ∧ Ht w0 (frz ζ :: (blk g4 [.slice none 0 0, .slice none 0 0, vi 0] 29) :: Y) w)] (by kernel_rfl) hst4 (fun w5 hst5 => ?_)
  have hS0 := (⟨_, _, (Le.refl _), (St.up (St.up hst5 2 rfl) 1 rfl)⟩ : (fun w => ∃ ζ Y, Le z0 ζ ∧ Ht w0 (frz ζ :: (blk g3 [.slice A1 p0.Refs.length c1, vi p0.Floor] 38) :: Y) w) _)
  have hS1 := (⟨_, _, (Le.refl _), (St.up (St.up hst5 1 rfl) 1 rfl)⟩ : (fun w => ∃ ζ Y, Le z0 ζ ∧ Ht w0 (frz ζ :: (blk g4 [.slice none 0 0, .slice none 0 0, vi 0] 29) :: Y) w) _)
  refine Any.takeE 0 rfl rfl rfl rfl (by kernel_rfl) (fun _ _ _ _ _ h => h) ((Ex.fieldAddr rfl Try.underlying38 rfl sz26).s) ?_
  refine Any.take 0 1 rfl rfl rfl rfl rfl (by kernel_rfl) (fun _ _ _ _ _ h => h) (ExS.load rfl Try.underlying26 rfl (fun w hS => by obtain ⟨_, _, _, hs⟩ := hS; exact hs.cell (i := 1) rfl rfl)) hS0 ?_
  refine Any.takeE 3 rfl rfl rfl rfl (by kernel_rfl) (fun _ _ _ _ _ h => h) ((Ex.fieldAddr rfl Try.underlying38 rfl sz3).s) ?_
  refine Any.take 0 4 rfl rfl rfl rfl rfl (by kernel_rfl) (fun _ _ _ _ _ h => h) (ExS.load rfl Try.underlying3 rfl (fun w hS => by obtain ⟨_, _, _, hs⟩ := hS; exact hs.cell (i := 1) rfl rfl)) hS0 ?_
  obtain ⟨y6, hy6, hf⟩ := bnd hf
  refine Any.one 2 (by kernel_rfl) rfl rfl (One.of_ops rfl ?_)
  refine Ops.call rfl rfl Try.func27 (by kernel_rfl) (by kernel_rfl) rfl (go_slices_Clone_api_Ref_api_Ref.walk (p0 := p0.Refs) (hst := hst5) (f1 := f1) (hf := hy6)) ?_
  rintro _ w6 ⟨z6, A7, c7, d7, rfl, hz6, f7, hst6⟩
  refine ⟨_, rfl, Ops.stop ?_⟩
  replace f1 := f1.mono hz6
  replace hle0 := hle0.trans hz6
  have hS0 := (⟨_, _, hle0, (St.up (St.up hst6 3 rfl) 1 rfl)⟩ : (fun w => ∃ ζ Y, Le z0 ζ ∧ Ht w0 (frz ζ :: (blk g3 [.slice A1 p0.Refs.length c1, vi p0.Floor] 38) :: Y) w) _)
  have hS1 := (⟨_, _, hle0, (St.up (St.up hst6 2 rfl) 1 rfl)⟩ : (fun w => ∃ ζ Y, Le z0 ζ ∧ Ht w0 (frz ζ :: (blk g4 [.slice none 0 0, .slice none 0 0, vi 0] 29) :: Y) w) _)
  refine ⟨⟨.inr (fun _ => hS0), .inr (fun _ => hS1), trivial⟩, ?_⟩
  refine Any.takeE 5 rfl rfl rfl rfl (by kernel_rfl) (fun _ _ _ _ _ h => h) ((Ex.build [.slice A7 y6.length c7, .slice none 0 0, vi p0.Floor] rfl Try.underlying29 zr29 (pl29 Try.underlying29) (by kernel_rfl)).s) ?_
  refine Any.one 6 (by kernel_rfl) rfl rfl (One.of_ops rfl ?_)
  refine Ops.store 2 [.slice A7 y6.length c7, .slice none 0 0, vi p0.Floor] hst6 rfl rfl rfl rfl sz29 rfl (by simp [Value.oneCell']) (by simp) (fun w8 hst8 => Ops.stop ?_)
  have hS0 := (⟨_, _, hle0, (St.up (St.up hst8 3 rfl) 1 rfl)⟩ : (fun w => ∃ ζ Y, Le z0 ζ ∧ Ht w0 (frz ζ :: (blk g3 [.slice A1 p0.Refs.length c1, vi p0.Floor] 38) :: Y) w) _)
  refine ⟨⟨.inr (fun _ => hS0), .inl (by decide), trivial⟩, ?_⟩
  refine Any.done (by kernel_rfl) ?_
  obtain ⟨z9, hz9, f9, hst9⟩ := St.freeze (τ := tapiRef) (xs := y6) hst8 f7 rfl
  replace f1 := f1.mono hz9
  replace hle0 := hle0.trans hz9
  obtain rfl := Option.some.inj hf
  exact Run.retV [.agg #[.slice A7 y6.length c7, .slice none 0 0, vi p0.Floor]] rfl ⟨⟨_, rfl, run_loadN _ Try.underlying29 rfl sz29 rfl (hst9.cells (i := 1) rfl 0 3)⟩, trivial⟩ ⟨z9, A7, c7, none, 0, rfl, hle0, f9, (Sl.nil _ _), (St.forget (St.forget hst9 2) 1)⟩
def go_law10_awake : Option Bool :=
  (go_edits_Do (⟨[], 0⟩ : editsSet) (⟨[(⟨[97], 2, 1, 2⟩ : apiRef)], [], 1⟩ : editsEdit)).bind fun y4 => (go_edits_Do y4.1 (⟨[(⟨[97], 2, 1, 2⟩ : apiRef)], [], 1⟩ : editsEdit)).bind fun y12 => (go_edits_Do y4.1 (⟨[(⟨[97], 2, 1, 2⟩ : apiRef)], [[97]], 2⟩ : editsEdit)).bind fun y21 => if y4.2 = 0 then (if y12.2 = 5 then (if y21.2 = 0 then (if y21.1.Floor = 2 then ((go_edits_Find y21.1 [97]).bind fun y29 => some (decide (y29 = 0))) else (some false)) else (some false)) else (some false)) else (some false)
set_option maxRecDepth 100000 in
set_option maxHeartbeats 4000000 in
theorem go_law10_awake.walk {w0 w : World} {X : List Res} {z0 : Zp}  {r : Bool} (hst : Ht w0 (frz z0 :: X) w) (hf : go_law10_awake = some r) :
    Calls Try.prog 11 #[] w fun e w' => ∃ (z' : Zp), e = .returned (vb r) ∧ Le z0 z' ∧ Ht w0 (frz z' :: X) w' := by
  refine calls_np Try.func11 rfl rfl ?_
  have hle0 := Le.refl z0
  unfold go_law10_awake at hf
  refine Run.seq ?_
  refine Run.region ?_
  refine Ops.ex (Ex.assign rfl) rfl rfl rfl ?_
  refine Ops.nil ?_
  refine Run.seq ?_
  refine Run.region ?_
  refine Ops.ex (Ex.build [vs [97], vi 2, vi 1, vi 2] rfl Try.underlying24 zr24 (pl24 Try.underlying24) (by kernel_rfl)) rfl rfl rfl ?_
  refine Ops.allocF [vs [], vi 0, vi 0, vi 0] hst zr24 rfl rfl (fun g1 w1 hst1 => ?_)
  refine Ops.store 1 [vs [97], vi 2, vi 1, vi 2] hst1 rfl rfl rfl rfl sz24 rfl (by simp [Value.oneCell']) (by simp) (fun w2 hst2 => ?_)
  refine Ops.nil ?_
  refine Run.seq ?_
  refine Run.region ?_
  refine Ops.ex (Ex.build [.slice none 0 0, vi 0] rfl Try.underlying38 zr38 (pl38 Try.underlying38) (by kernel_rfl)) rfl rfl rfl ?_
  refine Ops.loadAgg _ rfl Try.underlying24 rfl sz24 rfl (hst2.cells (i := 1) rfl 0 4) rfl ?_
  refine Ops.sliceF [vs [97], vi 2, vi 1, vi 2] hst2 rfl Try.underlying26 sz24 zr24 rfl rfl (by kernel_rfl) rfl (by simp [Value.oneCell']) rfl (fun A3 w3 hst3 => ?_)
  have f3 : Cs tapiRef z0 [vs [97], vi 2, vi 1, vi 2] [(⟨[97], 2, 1, 2⟩ : apiRef)] := (Cs.cons (c := [vs [97], vi 2, vi 1, vi 2]) rfl (Cs.nil _ _))
  refine Ops.ex (Ex.build [.slice A3 ([(⟨[97], 2, 1, 2⟩ : apiRef)]).length 1, .slice none 0 0, vi 1] rfl Try.underlying29 zr29 (pl29 Try.underlying29) (by kernel_rfl)) rfl rfl rfl ?_
  obtain ⟨z5, hz5, f5, hst5⟩ := St.freeze (τ := tapiRef) (xs := ([(⟨[97], 2, 1, 2⟩ : apiRef)])) hst3 f3 rfl
  replace hle0 := hle0.trans hz5
  obtain ⟨y4, hy4, hf⟩ := bnd hf
  refine Ops.call rfl rfl Try.func15 (by kernel_rfl) (by kernel_rfl) rfl (go_edits_Do.walk (p0 := (⟨[], 0⟩ : editsSet)) (p1 := (⟨[(⟨[97], 2, 1, 2⟩ : apiRef)], [], 1⟩ : editsEdit)) (hst := hst5) (f1 := Sl.nil _ _) (f3 := f5) (f4 := Sl.nil _ _) (hf := hy4)) ?_
  rintro _ w4 ⟨z4, A6, c6, rfl, hz4, f6, hst4⟩
  refine ⟨_, rfl, ?_⟩
  replace f5 := f5.mono hz4
  replace hle0 := hle0.trans hz4
  refine Ops.ex (Ex.move rfl) rfl rfl rfl ?_
  refine Ops.ex (Ex.extract rfl rfl) rfl rfl rfl ?_
  refine Ops.ex (Ex.extract rfl rfl) rfl rfl rfl ?_
  refine Ops.allocF [.slice none 0 0, vi 0] hst4 zr38 rfl rfl (fun g9 w9 hst9 => ?_)
  refine Ops.store 1 [.slice A6 y4.1.Refs.length c6, vi y4.1.Floor] hst9 rfl rfl rfl rfl sz38 rfl (by simp [Value.oneCell']) (by simp) (fun w10 hst10 => ?_)
  refine Ops.ex (Ex.assign rfl) rfl rfl rfl ?_
  refine Ops.nil ?_
  refine Run.seq ?_
  refine Run.region ?_
  refine Ops.loadAgg _ rfl Try.underlying38 rfl sz38 rfl (hst10.cells (i := 1) rfl 0 2) rfl ?_
  refine Ops.loadAgg _ rfl Try.underlying24 rfl sz24 rfl (hst10.cells (i := 2) rfl 0 4) rfl ?_
  refine Ops.sliceF [vs [97], vi 2, vi 1, vi 2] hst10 rfl Try.underlying26 sz24 zr24 rfl rfl (by kernel_rfl) rfl (by simp [Value.oneCell']) rfl (fun A11 w11 hst11 => ?_)
  have f11 : Cs tapiRef z4 [vs [97], vi 2, vi 1, vi 2] [(⟨[97], 2, 1, 2⟩ : apiRef)] := (Cs.cons (c := [vs [97], vi 2, vi 1, vi 2]) rfl (Cs.nil _ _))
  refine Ops.ex (Ex.build [.slice A11 ([(⟨[97], 2, 1, 2⟩ : apiRef)]).length 1, .slice none 0 0, vi 1] rfl Try.underlying29 zr29 (pl29 Try.underlying29) (by kernel_rfl)) rfl rfl rfl ?_
  obtain ⟨z13, hz13, f13, hst13⟩ := St.freeze (τ := tapiRef) (xs := ([(⟨[97], 2, 1, 2⟩ : apiRef)])) hst11 f11 rfl
  replace f5 := f5.mono hz13; replace f6 := f6.mono hz13
  replace hle0 := hle0.trans hz13
  obtain ⟨y12, hy12, hf⟩ := bnd hf
  refine Ops.call rfl rfl Try.func15 (by kernel_rfl) (by kernel_rfl) rfl (go_edits_Do.walk (p0 := y4.1) (p1 := (⟨[(⟨[97], 2, 1, 2⟩ : apiRef)], [], 1⟩ : editsEdit)) (hst := hst13) (f1 := f6) (f3 := f13) (f4 := Sl.nil _ _) (hf := hy12)) ?_
  rintro _ w12 ⟨z12, A14, c14, rfl, hz12, f14, hst12⟩
  refine ⟨_, rfl, ?_⟩
  replace f5 := f5.mono hz12; replace f6 := f6.mono hz12; replace f13 := f13.mono hz12
  replace hle0 := hle0.trans hz12
  refine Ops.ex (Ex.move rfl) rfl rfl rfl ?_
  refine Ops.ex (Ex.extract rfl rfl) rfl rfl rfl ?_
  refine Ops.ex (Ex.extract rfl rfl) rfl rfl rfl ?_
  refine Ops.allocF [.slice none 0 0, vi 0] hst12 zr38 rfl rfl (fun g17 w17 hst17 => ?_)
  refine Ops.store 1 [.slice A14 y12.1.Refs.length c14, vi y12.1.Floor] hst17 rfl rfl rfl rfl sz38 rfl (by simp [Value.oneCell']) (by simp) (fun w18 hst18 => ?_)
  refine Ops.ex (Ex.assign rfl) rfl rfl rfl ?_
  refine Ops.nil ?_
  refine Run.seq ?_
  refine Run.region ?_
  refine Ops.loadAgg _ rfl Try.underlying38 rfl sz38 rfl (hst18.cells (i := 2) rfl 0 2) rfl ?_
  refine Ops.loadAgg _ rfl Try.underlying24 rfl sz24 rfl (hst18.cells (i := 3) rfl 0 4) rfl ?_
  refine Ops.sliceF [vs [97], vi 2, vi 1, vi 2] hst18 rfl Try.underlying26 sz24 zr24 rfl rfl (by kernel_rfl) rfl (by simp [Value.oneCell']) rfl (fun A19 w19 hst19 => ?_)
  have f19 : Cs tapiRef z12 [vs [97], vi 2, vi 1, vi 2] [(⟨[97], 2, 1, 2⟩ : apiRef)] := (Cs.cons (c := [vs [97], vi 2, vi 1, vi 2]) rfl (Cs.nil _ _))
  refine Ops.sliceF [vs [97]] hst19 rfl Try.underlying27 sz9 zr9 rfl rfl (by kernel_rfl) rfl (by simp [Value.oneCell']) rfl (fun A20 w20 hst20 => ?_)
  have f20 : Cs tS z12 [vs [97]] [[97]] := (Cs.cons (c := [vs [97]]) rfl (Cs.nil _ _))
  refine Ops.ex (Ex.build [.slice A19 ([(⟨[97], 2, 1, 2⟩ : apiRef)]).length 1, .slice A20 ([[97]]).length 1, vi 2] rfl Try.underlying29 zr29 (pl29 Try.underlying29) (by kernel_rfl)) rfl rfl rfl ?_
  obtain ⟨z22, hz22, f22, hst22⟩ := St.freeze (τ := tapiRef) (xs := ([(⟨[97], 2, 1, 2⟩ : apiRef)])) (St.up (St.up (St.up (St.up (St.up (St.up hst20 5 rfl) 5 rfl) 5 rfl) 4 rfl) 5 rfl) 5 rfl) f19 rfl
  replace f5 := f5.mono hz22; replace f6 := f6.mono hz22; replace f13 := f13.mono hz22; replace f14 := f14.mono hz22; replace f20 := f20.mono hz22
  replace hle0 := hle0.trans hz22
  obtain ⟨z23, hz23, f23, hst23⟩ := St.freeze (τ := tS) (xs := ([[97]])) hst22 f20 rfl
  replace f5 := f5.mono hz23; replace f6 := f6.mono hz23; replace f13 := f13.mono hz23; replace f14 := f14.mono hz23; replace f22 := f22.mono hz23
  replace hle0 := hle0.trans hz23
  obtain ⟨y21, hy21, hf⟩ := bnd hf
  refine Ops.call rfl rfl Try.func15 (by kernel_rfl) (by kernel_rfl) rfl (go_edits_Do.walk (p0 := y4.1) (p1 := (⟨[(⟨[97], 2, 1, 2⟩ : apiRef)], [[97]], 2⟩ : editsEdit)) (hst := hst23) (f1 := f6) (f3 := f22) (f4 := f23) (hf := hy21)) ?_
  rintro _ w21 ⟨z21, A24, c24, rfl, hz21, f24, hst21⟩
  refine ⟨_, rfl, ?_⟩
  replace f5 := f5.mono hz21; replace f6 := f6.mono hz21; replace f13 := f13.mono hz21; replace f14 := f14.mono hz21; replace f22 := f22.mono hz21; replace f23 := f23.mono hz21
  replace hle0 := hle0.trans hz21
  refine Ops.ex (Ex.move rfl) rfl rfl rfl ?_
  refine Ops.ex (Ex.extract rfl rfl) rfl rfl rfl ?_
  refine Ops.ex (Ex.extract rfl rfl) rfl rfl rfl ?_
  refine Ops.allocF [.slice none 0 0, vi 0] hst21 zr38 rfl rfl (fun g27 w27 hst27 => ?_)
  refine Ops.store 1 [.slice A24 y21.1.Refs.length c24, vi y21.1.Floor] hst27 rfl rfl rfl rfl sz38 rfl (by simp [Value.oneCell']) (by simp) (fun w28 hst28 => ?_)
  refine Ops.ex (Ex.assign rfl) rfl rfl rfl ?_
  refine Ops.nil ?_
  refine Run.seq ?_
  refine Run.region ?_
  refine Ops.ex (Ex.move rfl) rfl rfl rfl ?_
  refine Ops.ex (Ex.eqlI rfl rfl) rfl rfl rfl ?_
  refine Ops.ex (Ex.move rfl) rfl rfl rfl ?_
  refine Ops.case 36 rfl (fun hc => ?_) (fun hc => ?_)
  · replace hf := ifT (dec_T hc) hf
    refine Ops.on rfl ?_
    refine Ops.ex (Ex.move rfl) rfl rfl rfl ?_
    refine Ops.on rfl ?_
    refine Ops.ex (Ex.eqlI rfl rfl) rfl rfl rfl ?_
    refine Ops.ex (Ex.pickT rfl rfl) rfl rfl rfl ?_
    refine Ops.ex (Ex.move rfl) rfl rfl rfl ?_
    refine Ops.case 40 rfl (fun hc => ?_) (fun hc => ?_)
    · replace hf := ifT (dec_T hc) hf
      refine Ops.on rfl ?_
      refine Ops.ex (Ex.move rfl) rfl rfl rfl ?_
      refine Ops.on rfl ?_
      refine Ops.ex (Ex.eqlI rfl rfl) rfl rfl rfl ?_
      refine Ops.ex (Ex.pickT rfl rfl) rfl rfl rfl ?_
      refine Ops.ex (Ex.move rfl) rfl rfl rfl ?_
      refine Ops.case 44 rfl (fun hc => ?_) (fun hc => ?_)
      · replace hf := ifT (dec_T hc) hf
        refine Ops.on rfl ?_
        refine Ops.ex (Ex.fieldAddr rfl Try.underlying38 rfl sz3) rfl rfl rfl ?_
        refine Ops.on rfl ?_
        refine Ops.load rfl Try.underlying3 rfl (hst28.cell (i := 1) rfl rfl) rfl ?_
        refine Ops.on rfl ?_
        refine Ops.ex (Ex.eqlI rfl rfl) rfl rfl rfl ?_
        refine Ops.ex (Ex.pickT rfl rfl) rfl rfl rfl ?_
        refine Ops.ex (Ex.move rfl) rfl rfl rfl ?_
        refine Ops.case 49 rfl (fun hc => ?_) (fun hc => ?_)
        · replace hf := ifT (dec_T hc) hf
          refine Ops.on rfl ?_
          refine Ops.loadAgg _ rfl Try.underlying38 rfl sz38 rfl (hst28.cells (i := 1) rfl 0 2) rfl ?_
          refine Ops.on rfl ?_
          obtain ⟨y29, hy29, hf⟩ := bnd hf
          refine Ops.call rfl rfl Try.func16 (by kernel_rfl) (by kernel_rfl) rfl (go_edits_Find.walk (p0 := y21.1) (p1 := [97]) (hst := hst28) (f1 := f24) (hf := hy29)) ?_
          rintro _ w29 ⟨z29, rfl, hz29, hst29⟩
          refine ⟨_, rfl, ?_⟩
          replace f5 := f5.mono hz29; replace f6 := f6.mono hz29; replace f13 := f13.mono hz29; replace f14 := f14.mono hz29; replace f22 := f22.mono hz29; replace f23 := f23.mono hz29; replace f24 := f24.mono hz29
          replace hle0 := hle0.trans hz29
          refine Ops.on rfl ?_
          refine Ops.ex (Ex.eqlI rfl rfl) rfl rfl rfl ?_
          refine Ops.ex (Ex.pickT rfl rfl) rfl rfl rfl ?_
          refine Ops.ex (Ex.assign rfl) rfl rfl rfl ?_
          refine Ops.nil ?_
          obtain rfl := Option.some.inj hf
          exact Run.retV [vb (decide (y29 = 0))] rfl ⟨rfl, trivial⟩ ⟨z29, rfl, hle0, (St.forget (St.forget (St.forget (St.forget hst29 4) 3) 2) 1)⟩
        · replace hf := ifF (dec_F hc) hf
          refine Ops.off rfl rfl ?_
          refine Ops.off rfl rfl ?_
          refine Ops.off rfl rfl ?_
          refine Ops.ex (Ex.pickF rfl rfl) rfl rfl rfl ?_
          refine Ops.ex (Ex.assign rfl) rfl rfl rfl ?_
          refine Ops.nil ?_
          obtain rfl := Option.some.inj hf
          exact Run.retV [vb false] rfl ⟨rfl, trivial⟩ ⟨z21, rfl, hle0, (St.forget (St.forget (St.forget (St.forget hst28 4) 3) 2) 1)⟩
      · replace hf := ifF (dec_F hc) hf
        refine Ops.off rfl rfl ?_
        refine Ops.off rfl rfl ?_
        refine Ops.off rfl rfl ?_
        refine Ops.ex (Ex.pickF rfl rfl) rfl rfl rfl ?_
        refine Ops.ex (Ex.move rfl) rfl rfl rfl ?_
        refine Ops.off rfl rfl ?_
        refine Ops.off rfl rfl ?_
        refine Ops.off rfl rfl ?_
        refine Ops.ex (Ex.pickF rfl rfl) rfl rfl rfl ?_
        refine Ops.ex (Ex.assign rfl) rfl rfl rfl ?_
        refine Ops.nil ?_
        obtain rfl := Option.some.inj hf
        exact Run.retV [vb false] rfl ⟨rfl, trivial⟩ ⟨z21, rfl, hle0, (St.forget (St.forget (St.forget (St.forget hst28 4) 3) 2) 1)⟩
    · replace hf := ifF (dec_F hc) hf
      refine Ops.off rfl rfl ?_
      refine Ops.off rfl rfl ?_
      refine Ops.ex (Ex.pickF rfl rfl) rfl rfl rfl ?_
      refine Ops.ex (Ex.move rfl) rfl rfl rfl ?_
      refine Ops.off rfl rfl ?_
      refine Ops.off rfl rfl ?_
      refine Ops.off rfl rfl ?_
      refine Ops.ex (Ex.pickF rfl rfl) rfl rfl rfl ?_
      refine Ops.ex (Ex.move rfl) rfl rfl rfl ?_
      refine Ops.off rfl rfl ?_
      refine Ops.off rfl rfl ?_
      refine Ops.off rfl rfl ?_
      refine Ops.ex (Ex.pickF rfl rfl) rfl rfl rfl ?_
      refine Ops.ex (Ex.assign rfl) rfl rfl rfl ?_
      refine Ops.nil ?_
      obtain rfl := Option.some.inj hf
      exact Run.retV [vb false] rfl ⟨rfl, trivial⟩ ⟨z21, rfl, hle0, (St.forget (St.forget (St.forget (St.forget hst28 4) 3) 2) 1)⟩
  · replace hf := ifF (dec_F hc) hf
    refine Ops.off rfl rfl ?_
    refine Ops.off rfl rfl ?_
    refine Ops.ex (Ex.pickF rfl rfl) rfl rfl rfl ?_
    refine Ops.ex (Ex.move rfl) rfl rfl rfl ?_
    refine Ops.off rfl rfl ?_
    refine Ops.off rfl rfl ?_
    refine Ops.ex (Ex.pickF rfl rfl) rfl rfl rfl ?_
    refine Ops.ex (Ex.move rfl) rfl rfl rfl ?_
    refine Ops.off rfl rfl ?_
    refine Ops.off rfl rfl ?_
    refine Ops.off rfl rfl ?_
    refine Ops.ex (Ex.pickF rfl rfl) rfl rfl rfl ?_
    refine Ops.ex (Ex.move rfl) rfl rfl rfl ?_
    refine Ops.off rfl rfl ?_
    refine Ops.off rfl rfl ?_
    refine Ops.off rfl rfl ?_
    refine Ops.ex (Ex.pickF rfl rfl) rfl rfl rfl ?_
    refine Ops.ex (Ex.assign rfl) rfl rfl rfl ?_
    refine Ops.nil ?_
    obtain rfl := Option.some.inj hf
    exact Run.retV [vb false] rfl ⟨rfl, trivial⟩ ⟨z21, rfl, hle0, (St.forget (St.forget (St.forget (St.forget hst28 4) 3) 2) 1)⟩
end Go.Proofs.Ytjlhookdigbjhaa.E2
