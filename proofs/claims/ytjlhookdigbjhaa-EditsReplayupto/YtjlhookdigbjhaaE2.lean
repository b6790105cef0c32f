/- Edits: Step.Edit, Find, Do, All, awake. -/
import Derived.Test.YtjlhookdigbjhaaE1
import Derived.Test.YtjlhookdigbjhaaS1
namespace Go.Proofs.Ytjlhookdigbjhaa.E2
open Go Go.RowKit Go.Proofs.Ytjlhookdigbjhaa.Sx Go.Proofs.Ytjlhookdigbjhaa.E1
set_option linter.unusedVariables false
set_option linter.unusedSimpArgs false
structure law10Step where
  Add : List UInt8
  Drop : List UInt8
  Floor : UInt8
  Odd : Bool
  Any : apiRef
  deriving DecidableEq
def tlaw10Step : Ty law10Step where
  sz := 8
  R := fun ζ cs x => ∃ A0 c0 A1 c1, cs = [.slice A0 x.Add.length c0, .slice A1 x.Drop.length c1, vu8 x.Floor, vb x.Odd, vs x.Any.Name, vi x.Any.Kind, vi x.Any.From, vi x.Any.To] ∧ Sl tU8 ζ A0 c0 x.Add ∧ Sl tU8 ζ A1 c1 x.Drop
  len := by rintro ζ cs x ⟨A0, c0, A1, c1, rfl, f0, f1⟩; rfl
  one := by
    rintro ζ cs x ⟨A0, c0, A1, c1, rfl, f0, f1⟩ u hu
    simp only [List.mem_cons, List.not_mem_nil, or_false] at hu
    rcases hu with rfl | rfl | rfl | rfl | rfl | rfl | rfl | rfl <;> rfl
  mono := by rintro ζ ζ' cs x ⟨A0, c0, A1, c1, rfl, f0, f1⟩ hl; exact ⟨A0, c0, A1, c1, rfl, f0.mono hl, f1.mono hl⟩
structure editsEdit where
  Add : List apiRef
  Drop : List Str
  Floor : Int
  deriving DecidableEq
def teditsEdit : Ty editsEdit where
  sz := 3
  R := fun ζ cs x => ∃ A0 c0 A1 c1, cs = [.slice A0 x.Add.length c0, .slice A1 x.Drop.length c1, vi x.Floor] ∧ Sl tapiRef ζ A0 c0 x.Add ∧ Sl tS ζ A1 c1 x.Drop
  len := by rintro ζ cs x ⟨A0, c0, A1, c1, rfl, f0, f1⟩; rfl
  one := by
    rintro ζ cs x ⟨A0, c0, A1, c1, rfl, f0, f1⟩ u hu
    simp only [List.mem_cons, List.not_mem_nil, or_false] at hu
    rcases hu with rfl | rfl | rfl <;> rfl
  mono := by rintro ζ ζ' cs x ⟨A0, c0, A1, c1, rfl, f0, f1⟩ hl; exact ⟨A0, c0, A1, c1, rfl, f0.mono hl, f1.mono hl⟩
structure editsSet where
  Refs : List apiRef
  Floor : Int
  deriving DecidableEq
def teditsSet : Ty editsSet where
  sz := 2
  R := fun ζ cs x => ∃ A0 c0, cs = [.slice A0 x.Refs.length c0, vi x.Floor] ∧ Sl tapiRef ζ A0 c0 x.Refs
  len := by rintro ζ cs x ⟨A0, c0, rfl, f0⟩; rfl
  one := by
    rintro ζ cs x ⟨A0, c0, rfl, f0⟩ u hu
    simp only [List.mem_cons, List.not_mem_nil, or_false] at hu
    rcases hu with rfl | rfl <;> rfl
  mono := by rintro ζ ζ' cs x ⟨A0, c0, rfl, f0⟩ hl; exact ⟨A0, c0, rfl, f0.mono hl⟩
theorem zr29 : (Try.prog.info? 29).map (·.zero) = some (some (.agg #[.slice none 0 0, .slice none 0 0, .int .i64 0])) := by kernel_rfl
theorem sz5 : (Try.prog.info? 5).map (·.size) = some 1 := by kernel_rfl
theorem pl29 {fs : Array Field} (h : Try.prog.underlying 29 = some (.struct fs)) (w : World) : (fs.mapM fun f => do pure (f.offset, ← sizeOf f.type) : Sem (Array (Nat × Nat))).run Try.prog w = .ok #[(0, 1), (1, 1), (2, 1)] w := by
  rw [Try.underlying29] at h
  cases h
  kernel_rfl
theorem sz29 : (Try.prog.info? 29).map (·.size) = some 3 := by kernel_rfl
theorem sz30 : (Try.prog.info? 30).map (·.size) = some 1 := by kernel_rfl
theorem pl24 {fs : Array Field} (h : Try.prog.underlying 24 = some (.struct fs)) (w : World) : (fs.mapM fun f => do pure (f.offset, ← sizeOf f.type) : Sem (Array (Nat × Nat))).run Try.prog w = .ok #[(0, 1), (1, 1), (2, 1), (3, 1)] w := by
  rw [Try.underlying24] at h
  cases h
  kernel_rfl
theorem sz22 : (Try.prog.info? 22).map (·.size) = some 1 := by kernel_rfl
theorem sz3 : (Try.prog.info? 3).map (·.size) = some 1 := by kernel_rfl
theorem sz26 : (Try.prog.info? 26).map (·.size) = some 1 := by kernel_rfl
theorem sz27 : (Try.prog.info? 27).map (·.size) = some 1 := by kernel_rfl
theorem sz9 : (Try.prog.info? 9).map (·.size) = some 1 := by kernel_rfl
theorem zr9 : (Try.prog.info? 9).map (·.zero) = some (some (.string ⟨#[]⟩)) := by kernel_rfl
theorem inf9 : (Try.prog.info? 9).map (fun i => (i.zero, i.size, i.bytes)) = some (some (.string ⟨#[]⟩), 1, 16) := by kernel_rfl
theorem sz4 : (Try.prog.info? 4).map (·.size) = some 1 := by kernel_rfl
theorem zr38 : (Try.prog.info? 38).map (·.zero) = some (some (.agg #[.slice none 0 0, .int .i64 0])) := by kernel_rfl
theorem pl38 {fs : Array Field} (h : Try.prog.underlying 38 = some (.struct fs)) (w : World) : (fs.mapM fun f => do pure (f.offset, ← sizeOf f.type) : Sem (Array (Nat × Nat))).run Try.prog w = .ok #[(0, 1), (1, 1)] w := by
  rw [Try.underlying38] at h
  cases h
  kernel_rfl
theorem sz38 : (Try.prog.info? 38).map (·.size) = some 2 := by kernel_rfl
def go_law10_Step_Edit.j1 (l198 : List apiRef) (a14 : UInt8) (nxb14 : (List apiRef) → Option editsEdit) (y204 : Str) (x212 : Int) : Option editsEdit :=
  (apB 40 l198 [(⟨y204, (((a14 / 8) % 3).toNat : Int), ((a14 / 32).toNat : Int), x212⟩ : apiRef)]).bind fun l216 => nxb14 l216
def go_law10_Step_Edit.b2 (i219 : Nat) (a219 : UInt8) : (List Str) → (List Str → Option editsEdit) → Option editsEdit :=
  fun l265 nxb219 => (go_law10_name a219).bind fun y273 => (apB 16 l265 [y273]).bind fun l276 => nxb219 l276
def go_law10_Step_Edit.b1 (i14 : Nat) (a14 : UInt8) : (List apiRef) → (List apiRef → Option editsEdit) → Option editsEdit :=
  fun l198 nxb14 => (go_law10_name a14).bind fun y204 => if (((a14 / 8) % 3).toNat : Int) = 0 then (go_law10_Step_Edit.j1 l198 a14 nxb14 y204 ((a14 / 32).toNat : Int)) else (go_law10_Step_Edit.j1 l198 a14 nxb14 y204 (wr (((a14 / 32).toNat : Int) + ((a14 % 5).toNat : Int))))
def go_law10_Step_Edit (p0 : law10Step) : Option editsEdit :=
  (cutI p0.Add 0 (min (p0.Add.length : Int) 4)).bind fun l13 => forL (go_law10_Step_Edit.b1) (fun l198 => (cutI p0.Drop 0 (min (p0.Drop.length : Int) 4)).bind fun l218 => forL (go_law10_Step_Edit.b2) (fun l265 => if p0.Odd then ((apB 40 l198 [p0.Any]).bind fun l279 => some (⟨l279, l265, ((p0.Floor % 16).toNat : Int)⟩ : editsEdit)) else (some (⟨l198, l265, ((p0.Floor % 16).toNat : Int)⟩ : editsEdit))) 0 l218 []) 0 l13 []
set_option maxRecDepth 100000 in
set_option maxHeartbeats 4000000 in
theorem go_law10_Step_Edit.walk {w0 w : World} {X : List Res} {z0 : Zp} {p0 : law10Step} {A1 : Option Addr} {c1 : Nat} {A2 : Option Addr} {c2 : Nat} {r : editsEdit} (hst : Ht w0 (frz z0 :: X) w) (f1 : Sl tU8 z0 A1 c1 p0.Add) (f2 : Sl tU8 z0 A2 c2 p0.Drop) (hf : go_law10_Step_Edit p0 = some r) :
    Calls Try.prog 12 #[.agg #[.slice A1 p0.Add.length c1, .slice A2 p0.Drop.length c2, vu8 p0.Floor, vb p0.Odd, vs p0.Any.Name, vi p0.Any.Kind, vi p0.Any.From, vi p0.Any.To]] w fun e w' => ∃ (z' : Zp) (A9001 : Option Addr) (c9001 : Nat) (A9002 : Option Addr) (c9002 : Nat), e = .returned (.agg #[.slice A9001 r.Add.length c9001, .slice A9002 r.Drop.length c9002, vi r.Floor]) ∧ Le z0 z' ∧ Sl tapiRef z' A9001 c9001 r.Add ∧ Sl tS z' A9002 c9002 r.Drop ∧ Ht w0 (frz z' :: X) w' := by
  refine calls_np Try.func12 rfl rfl ?_
  have hle0 := Le.refl z0
  unfold go_law10_Step_Edit at hf
  refine Run.seq ?_
  refine Run.region ?_
  refine Ops.boxF [.slice A1 p0.Add.length c1, .slice A2 p0.Drop.length c2, vu8 p0.Floor, vb p0.Odd, vs p0.Any.Name, vi p0.Any.Kind, vi p0.Any.From, vi p0.Any.To] hst rfl rfl rfl (fun g9 w9 hst9 => ?_)
  refine Ops.allocF [.slice none 0 0, .slice none 0 0, vi 0] hst9 zr29 rfl rfl (fun g10 w10 hst10 => ?_)
  refine Ops.nil ?_
  refine Run.seq ?_
  refine Run.region ?_
  refine Ops.ex (Ex.fieldAddr rfl Try.underlying32 rfl sz5) rfl rfl rfl ?_
  refine Ops.load rfl Try.underlying5 rfl (hst10.cell (i := 2) rfl rfl) rfl ?_
  refine Ops.ex (Ex.rem8 (a := p0.Floor) (b := 16) rfl rfl (by decide)) rfl rfl rfl ?_
  refine Ops.ex (Ex.cu8 rfl Try.underlying5 Try.underlying3) rfl rfl rfl ?_
  refine Ops.ex (Ex.build [.slice none 0 0, .slice none 0 0, vi ((p0.Floor % 16).toNat : Int)] rfl Try.underlying29 zr29 (pl29 Try.underlying29) (by kernel_rfl)) rfl rfl rfl ?_
  refine Ops.allocF [.slice none 0 0, .slice none 0 0, vi 0] hst10 zr29 rfl rfl (fun g11 w11 hst11 => ?_)
  refine Ops.store 1 [.slice none 0 0, .slice none 0 0, vi ((p0.Floor % 16).toNat : Int)] hst11 rfl rfl rfl rfl sz29 rfl (by simp [Value.oneCell']) (by simp) (fun w12 hst12 => ?_)
  refine Ops.nil ?_
  refine Run.seq ?_
  refine Run.seq ?_
  refine Run.region ?_
  refine Ops.ex (Ex.fieldAddr rfl Try.underlying32 rfl sz30) rfl rfl rfl ?_
  refine Ops.load rfl Try.underlying30 rfl (hst12.cell (i := 3) rfl rfl) rfl ?_
  refine Ops.ex (Ex.fieldAddr rfl Try.underlying32 rfl sz30) rfl rfl rfl ?_
  refine Ops.load rfl Try.underlying30 rfl (hst12.cell (i := 3) rfl rfl) rfl ?_
  refine Ops.ex (Ex.len' rfl rfl rfl Try.underlying30) rfl rfl rfl ?_
  refine Ops.ex (Ex.min2 rfl rfl rfl) rfl rfl rfl ?_
  obtain ⟨l13, hy13, hf⟩ := bnd hf
  obtain ⟨A13, c13, hA13, hB13, f13⟩ := SlH.sub f1.toH hy13
  replace f13 := f13.toS
  refine Ops.ex (Ex.subA hA13 hB13 hy13 rfl rfl Try.underlying30 sz5 rfl rfl) rfl rfl rfl ?_
  refine Ops.ex (Ex.len' rfl rfl rfl Try.underlying30) rfl rfl rfl ?_
  refine Ops.ex (Ex.move rfl) rfl rfl rfl ?_
  refine Ops.nil ?_
  refine Run.block ?_
  have hc14 := f13.cap
  have hst199 := hst12.row0 24 4
  refine Run.sub (e' := [(1, .pointer (some ⟨g9, 0, none⟩)), (2, .pointer (some ⟨g10, 0, none⟩)), (3, .pointer (some ⟨g11, 0, none⟩)), (20, .slice A13 l13.length c13), (21, vi (l13.length : Int)), (22, vi ((0 : Nat) : Int))]) (subB_spec ⟨rfl, rfl, rfl, rfl, rfl, rfl, trivial⟩) ?_
  refine Run.loop (fun mb14 => (fun e' w' => ∃ (i14 : Nat) (l198 : List apiRef) (A198 : Option Addr) (c198 : Nat) (d198 : List Value) (z197 : Zp), mb14 = l13.length - i14 ∧ i14 ≤ l13.length ∧ forL (go_law10_Step_Edit.b1) (fun l198 => (cutI p0.Drop 0 (min (p0.Drop.length : Int) 4)).bind fun l218 => forL (go_law10_Step_Edit.b2) (fun l265 => if p0.Odd then ((apB 40 l198 [p0.Any]).bind fun l279 => some (⟨l279, l265, ((p0.Floor % 16).toNat : Int)⟩ : editsEdit)) else (some (⟨l198, l265, ((p0.Floor % 16).toNat : Int)⟩ : editsEdit))) 0 l218 []) i14 (l13.drop i14) l198 = some r ∧ e' = [(1, .pointer (some ⟨g9, 0, none⟩)), (2, .pointer (some ⟨g10, 0, none⟩)), (3, .pointer (some ⟨g11, 0, none⟩)), (20, .slice A13 l13.length c13), (21, vi (l13.length : Int)), (22, vi (i14 : Int))] ∧ Le z0 z197 ∧ Cs tapiRef z197 d198 l198 ∧ Ht w0 (frz z197 :: (orow 24 4 (.slice A198 l198.length c198) l198.length d198) :: (blk g11 [.slice A198 l198.length c198, .slice none 0 0, vi ((p0.Floor % 16).toNat : Int)] 29) :: (blk g10 [.slice none 0 0, .slice none 0 0, vi 0] 29) :: (blk g9 [.slice A1 p0.Add.length c1, .slice A2 p0.Drop.length c2, vu8 p0.Floor, vb p0.Odd, vs p0.Any.Name, vi p0.Any.Kind, vi p0.Any.From, vi p0.Any.To] 32) :: X) w')) l13.length ⟨0, [], none, 0, [], z0, rfl, Nat.zero_le _, hf, rfl, hle0, (Cs.nil _ _), hst199⟩ ?_
  rintro _ e' w201 ⟨i14, l198, A198, c198, d198, z197, rfl, hi14, hf, rfl, hz201, f198, hst201⟩
  replace f13 := f13.mono hz201; replace f1 := f1.mono hz201; replace f2 := f2.mono hz201
  refine Run.seq ?_
  refine Run.region ?_
  refine Ops.ex (Ex.lss rfl rfl) rfl rfl rfl ?_
  refine Ops.nil ?_
  refine Run.seq ?_
  refine Run.cond rfl (fun hc => ?_) (fun hc => ?_)
  · have hl14 := lt_of_dec hc
    obtain ⟨a14, nxb14, ha14, hnxb14, hf⟩ := forL_in hf hl14
    unfold go_law10_Step_Edit.b1 at hf
    try dsimp only at hf
    refine Run.skip ?_
    refine Run.seq ?_
    refine Run.block ?_
    refine Run.seq ?_
    refine Run.region ?_
    obtain ⟨g203, p203, o203, cs203, hA203, ho203, hr203, f203⟩ := SlH.elem f13.toH (atI_nat ha14)
    obtain rfl := hr203
    refine Ops.ex (Ex.ixA hA203 ho203 (atI_nat ha14) rfl rfl rfl Try.underlying30 sz5) rfl rfl rfl ?_
    refine Ops.load rfl Try.underlying5 rfl ((f203.mono hst201.le) 0 _ rfl) rfl ?_
    refine Ops.ex (Ex.assign rfl) rfl rfl rfl ?_
    refine Ops.nil ?_
    refine Run.seq ?_
    refine Run.region ?_
    refine Ops.ex (Ex.move rfl) rfl rfl rfl ?_
    obtain ⟨y204, hy204, hf⟩ := bnd hf
    refine Ops.call rfl rfl Try.func24 (by kernel_rfl) (by kernel_rfl) rfl (go_law10_name.walk (p0 := a14) (hst := hst201) (hf := hy204)) ?_
    rintro _ w204 ⟨z204, rfl, hz204, hst204⟩
    refine ⟨_, rfl, ?_⟩
    replace f13 := f13.mono hz204; replace f203 := f203.mono hz204; replace f198 := f198.mono hz204; replace f1 := f1.mono hz204; replace f2 := f2.mono hz204
    replace hz201 := hz201.trans hz204
    refine Ops.ex (Ex.move rfl) rfl rfl rfl ?_
    refine Ops.ex (Ex.quo8 (a := a14) (b := 8) rfl rfl (by decide)) rfl rfl rfl ?_
    refine Ops.ex (Ex.rem8 (a := (a14 / 8)) (b := 3) rfl rfl (by decide)) rfl rfl rfl ?_
    refine Ops.ex (Ex.cu8 rfl Try.underlying5 Try.underlying22) rfl rfl rfl ?_
    refine Ops.ex (Ex.move rfl) rfl rfl rfl ?_
    refine Ops.ex (Ex.quo8 (a := a14) (b := 32) rfl rfl (by decide)) rfl rfl rfl ?_
    refine Ops.ex (Ex.cu8 rfl Try.underlying5 Try.underlying3) rfl rfl rfl ?_
    refine Ops.ex (Ex.move rfl) rfl rfl rfl ?_
    refine Ops.ex (Ex.quo8 (a := a14) (b := 32) rfl rfl (by decide)) rfl rfl rfl ?_
    refine Ops.ex (Ex.cu8 rfl Try.underlying5 Try.underlying3) rfl rfl rfl ?_
    refine Ops.ex (Ex.move rfl) rfl rfl rfl ?_
    refine Ops.ex (Ex.rem8 (a := a14) (b := 5) rfl rfl (by decide)) rfl rfl rfl ?_
    refine Ops.ex (Ex.cu8 rfl Try.underlying5 Try.underlying3) rfl rfl rfl ?_
    refine Ops.ex (Ex.add rfl rfl) rfl rfl rfl ?_
    refine Ops.ex (Ex.build [vs y204, vi (((a14 / 8) % 3).toNat : Int), vi ((a14 / 32).toNat : Int), vi (wr (((a14 / 32).toNat : Int) + ((a14 % 5).toNat : Int)))] rfl Try.underlying24 zr24 (pl24 Try.underlying24) (by kernel_rfl)) rfl rfl rfl ?_
    refine Ops.allocF [vs [], vi 0, vi 0, vi 0] hst204 zr24 rfl rfl (fun g206 w206 hst206 => ?_)
    refine Ops.store 1 [vs y204, vi (((a14 / 8) % 3).toNat : Int), vi ((a14 / 32).toNat : Int), vi (wr (((a14 / 32).toNat : Int) + ((a14 % 5).toNat : Int)))] hst206 rfl rfl rfl rfl sz24 rfl (by simp [Value.oneCell']) (by simp) (fun w207 hst207 => ?_)
    refine Ops.nil ?_
    refine Run.seq ?_
    refine Run.seq ?_
    refine Run.region ?_
    refine Ops.ex (Ex.fieldAddr rfl Try.underlying24 rfl sz22) rfl rfl rfl ?_
    refine Ops.load rfl Try.underlying22 rfl (hst207.cell (i := 1) rfl rfl) rfl ?_
    refine Ops.ex (Ex.eqlI rfl rfl) rfl rfl rfl ?_
    refine Ops.nil ?_
    have hm210 := Le.refl z204
    apply Run.jn (fun e' w' => ∃ (x212 : Int) (z211 : Zp), go_law10_Step_Edit.j1 l198 a14 nxb14 y204 x212 = some r ∧ e' = [(1, .pointer (some ⟨g9, 0, none⟩)), (2, .pointer (some ⟨g10, 0, none⟩)), (3, .pointer (some ⟨g11, 0, none⟩)), (6, .pointer (some ⟨g206, 0, none⟩)), (20, .slice A13 l13.length c13), (21, vi (l13.length : Int)), (22, vi (i14 : Int))] ∧ Le z204 z211 ∧ Le z0 z211 ∧ Ht w0 (frz z211 :: (blk g206 [vs y204, vi (((a14 / 8) % 3).toNat : Int), vi ((a14 / 32).toNat : Int), vi x212] 24) :: (orow 24 4 (.slice A198 l198.length c198) l198.length d198) :: (blk g11 [.slice A198 l198.length c198, .slice none 0 0, vi ((p0.Floor % 16).toNat : Int)] 29) :: (blk g10 [.slice none 0 0, .slice none 0 0, vi 0] 29) :: (blk g9 [.slice A1 p0.Add.length c1, .slice A2 p0.Drop.length c2, vu8 p0.Floor, vb p0.Odd, vs p0.Any.Name, vi p0.Any.Kind, vi p0.Any.From, vi p0.Any.To] 32) :: X) w')
    · intro hj208
      refine Run.cond rfl (fun hc => ?_) (fun hc => ?_)
      · replace hf := ifT (dec_T hc) hf
        refine Run.region ?_
        refine Ops.ex (Ex.fieldAddr rfl Try.underlying24 rfl sz3) rfl rfl rfl ?_
        refine Ops.load rfl Try.underlying3 rfl (hst207.cell (i := 1) rfl rfl) rfl ?_
        refine Ops.ex (Ex.fieldAddr rfl Try.underlying24 rfl sz3) rfl rfl rfl ?_
        refine Ops.store 1 [vi ((a14 / 32).toNat : Int)] hst207 rfl rfl rfl rfl sz3 rfl (by simp [Value.oneCell']) (by simp) (fun w213 hst213 => ?_)
        refine Ops.nil ?_
        exact Run.sub (by exact subB_spec ⟨rfl, rfl, rfl, rfl, rfl, rfl, rfl, trivial⟩) (hj208 _ _ ⟨((a14 / 32).toNat : Int), z204, hf, rfl, hm210, hz201, hst213⟩)
      · replace hf := ifF (dec_F hc) hf
        refine Run.skip ?_
        exact Run.sub (by exact subB_spec ⟨rfl, rfl, rfl, rfl, rfl, rfl, rfl, trivial⟩) (hj208 _ _ ⟨wr (((a14 / 32).toNat : Int) + ((a14 % 5).toNat : Int)), z204, hf, rfl, hm210, hz201, hst207⟩)
    · rintro e' w214 ⟨x212, z211, hf, rfl, hz214, hy214_0, hst214⟩
      replace f13 := f13.mono hz214; replace f198 := f198.mono hz214; replace f1 := f1.mono hz214; replace f2 := f2.mono hz214
      unfold go_law10_Step_Edit.j1 at hf
      refine Run.region ?_
      refine Ops.ex (Ex.fieldAddr rfl Try.underlying29 rfl sz26) rfl rfl rfl ?_
      refine Ops.load rfl Try.underlying26 rfl (hst214.cell (i := 3) rfl rfl) rfl ?_
      refine Ops.loadAgg _ rfl Try.underlying24 rfl sz24 rfl (hst214.cells (i := 1) rfl 0 4) rfl ?_
      refine Ops.sliceF [vs y204, vi (((a14 / 8) % 3).toNat : Int), vi ((a14 / 32).toNat : Int), vi x212] hst214 rfl Try.underlying26 sz24 zr24 rfl rfl (by kernel_rfl) rfl (by simp [Value.oneCell']) rfl (fun A215 w215 hst215 => ?_)
      have f215 : Cs tapiRef z211 [vs y204, vi (((a14 / 8) % 3).toNat : Int), vi ((a14 / 32).toNat : Int), vi x212] [(⟨y204, (((a14 / 8) % 3).toNat : Int), ((a14 / 32).toNat : Int), x212⟩ : apiRef)] := (Cs.cons (c := [vs y204, vi (((a14 / 8) % 3).toNat : Int), vi ((a14 / 32).toNat : Int), vi x212]) rfl (Cs.nil _ _))
      obtain ⟨l216, hy216, hf⟩ := bnd hf
      refine Ops.app 3 hst215 rfl f198 rfl (own_slh f215 rfl (hst215.get (i := 1) rfl)) rfl hy216 rfl rfl rfl rfl Try.underlying26 inf24 rfl (by decide) (by decide) rfl (fun A216 c216 d216 w216 f216 hst216 => ?_)
      refine Ops.ex (Ex.fieldAddr rfl Try.underlying29 rfl sz26) rfl rfl rfl ?_
      refine Ops.store 4 [.slice A216 l216.length c216] hst216 rfl rfl rfl rfl sz26 rfl (by simp [Value.oneCell']) (by simp) (fun w217 hst217 => ?_)
      refine Ops.nil ?_
      refine Run.endBlk ?_
      refine Run.region ?_
      refine Ops.ex (Ex.add rfl rfl) rfl rfl rfl ?_
      refine Ops.ex (Ex.move rfl) rfl rfl rfl ?_
      refine Ops.nil ?_
      refine Run.re 22 rfl (congrArg vi (wr_succ' hl14 hc14)) ?_
      exact Run.sub (by exact subB_spec ⟨rfl, rfl, rfl, rfl, rfl, rfl, trivial⟩) (Run.stop ⟨l13.length - (i14 + 1), by omega, i14 + 1, l216, A216, c216, d216, z211, rfl, by omega, (hnxb14 _).symm.trans hf, rfl, hy214_0, f216, (St.forget (St.forget hst217 2) 1)⟩)
  · replace hf := forL_out hf (nlt_of_dec hc)
    try dsimp only at hf
    refine Run.exit _ rfl ?_
    refine Run.seq ?_
    refine Run.seq ?_
    refine Run.region ?_
    refine Ops.ex (Ex.fieldAddr rfl Try.underlying32 rfl sz30) rfl rfl rfl ?_
    refine Ops.load rfl Try.underlying30 rfl (hst201.cell (i := 4) rfl rfl) rfl ?_
    refine Ops.ex (Ex.fieldAddr rfl Try.underlying32 rfl sz30) rfl rfl rfl ?_
    refine Ops.load rfl Try.underlying30 rfl (hst201.cell (i := 4) rfl rfl) rfl ?_
    refine Ops.ex (Ex.len' rfl rfl rfl Try.underlying30) rfl rfl rfl ?_
    refine Ops.ex (Ex.min2 rfl rfl rfl) rfl rfl rfl ?_
    obtain ⟨l218, hy218, hf⟩ := bnd hf
    obtain ⟨A218, c218, hA218, hB218, f218⟩ := SlH.sub f2.toH hy218
    replace f218 := f218.toS
    refine Ops.ex (Ex.subA hA218 hB218 hy218 rfl rfl Try.underlying30 sz5 rfl rfl) rfl rfl rfl ?_
    refine Ops.ex (Ex.len' rfl rfl rfl Try.underlying30) rfl rfl rfl ?_
    refine Ops.ex (Ex.move rfl) rfl rfl rfl ?_
    refine Ops.nil ?_
    refine Run.block ?_
    have hc219 := f218.cap
    have hm220 := Le.refl z197
    have hst266 := hst201.row0 9 1
    refine Run.sub (e' := [(1, .pointer (some ⟨g9, 0, none⟩)), (2, .pointer (some ⟨g10, 0, none⟩)), (3, .pointer (some ⟨g11, 0, none⟩)), (62, .slice A218 l218.length c218), (63, vi (l218.length : Int)), (64, vi ((0 : Nat) : Int))]) (subB_spec ⟨rfl, rfl, rfl, rfl, rfl, rfl, trivial⟩) ?_
    refine Run.loop (fun mb219 => (fun e' w' => ∃ (i219 : Nat) (l265 : List Str) (A265 : Option Addr) (c265 : Nat) (d265 : List Value) (z264 : Zp), mb219 = l218.length - i219 ∧ i219 ≤ l218.length ∧ forL (go_law10_Step_Edit.b2) (fun l265 => if p0.Odd then ((apB 40 l198 [p0.Any]).bind fun l279 => some (⟨l279, l265, ((p0.Floor % 16).toNat : Int)⟩ : editsEdit)) else (some (⟨l198, l265, ((p0.Floor % 16).toNat : Int)⟩ : editsEdit))) i219 (l218.drop i219) l265 = some r ∧ e' = [(1, .pointer (some ⟨g9, 0, none⟩)), (2, .pointer (some ⟨g10, 0, none⟩)), (3, .pointer (some ⟨g11, 0, none⟩)), (62, .slice A218 l218.length c218), (63, vi (l218.length : Int)), (64, vi (i219 : Int))] ∧ Le z197 z264 ∧ Le z0 z264 ∧ Cs tS z264 d265 l265 ∧ Ht w0 (frz z264 :: (orow 9 1 (.slice A265 l265.length c265) l265.length d265) :: (orow 24 4 (.slice A198 l198.length c198) l198.length d198) :: (blk g11 [.slice A198 l198.length c198, .slice A265 l265.length c265, vi ((p0.Floor % 16).toNat : Int)] 29) :: (blk g10 [.slice none 0 0, .slice none 0 0, vi 0] 29) :: (blk g9 [.slice A1 p0.Add.length c1, .slice A2 p0.Drop.length c2, vu8 p0.Floor, vb p0.Odd, vs p0.Any.Name, vi p0.Any.Kind, vi p0.Any.From, vi p0.Any.To] 32) :: X) w')) l218.length ⟨0, [], none, 0, [], z197, rfl, Nat.zero_le _, hf, rfl, hm220, hz201, (Cs.nil _ _), hst266⟩ ?_
    rintro _ e' w268 ⟨i219, l265, A265, c265, d265, z264, rfl, hi219, hf, rfl, hz268, hy268_0, f265, hst268⟩
    replace f218 := f218.mono hz268; replace f198 := f198.mono hz268; replace f1 := f1.mono hz268; replace f2 := f2.mono hz268
    refine Run.seq ?_
    refine Run.region ?_
    refine Ops.ex (Ex.lss rfl rfl) rfl rfl rfl ?_
    refine Ops.nil ?_
    refine Run.seq ?_
    refine Run.cond rfl (fun hc => ?_) (fun hc => ?_)
    · have hl219 := lt_of_dec hc
      obtain ⟨a219, nxb219, ha219, hnxb219, hf⟩ := forL_in hf hl219
      unfold go_law10_Step_Edit.b2 at hf
      try dsimp only at hf
      refine Run.skip ?_
      refine Run.seq ?_
      refine Run.block ?_
      refine Run.seq ?_
      refine Run.region ?_
      obtain ⟨g270, p270, o270, cs270, hA270, ho270, hr270, f270⟩ := SlH.elem f218.toH (atI_nat ha219)
      obtain rfl := hr270
      refine Ops.ex (Ex.ixA hA270 ho270 (atI_nat ha219) rfl rfl rfl Try.underlying30 sz5) rfl rfl rfl ?_
      refine Ops.load rfl Try.underlying5 rfl ((f270.mono hst268.le) 0 _ rfl) rfl ?_
      refine Ops.ex (Ex.assign rfl) rfl rfl rfl ?_
      refine Ops.nil ?_
      have hm272 := Le.refl z264
      refine Run.drawH [([], fun w => ∃ ζ Y, Le z264 ζ ∧ Ht w0 (frz ζ :: (orow 24 4 (.slice A198 l198.length c198) l198.length d198) :: (blk g10 [.slice none 0 0, .slice none 0 0, vi 0] 29) :: (blk g9 [.slice A1 p0.Add.length c1, .slice A2 p0.Drop.length c2, vu8 p0.Floor, vb p0.Odd, vs p0.Any.Name, vi p0.Any.Kind, vi p0.Any.From, vi p0.Any.To] 32) :: Y) w), ([5, 7], fun w => ∃ ζ Y, Le z264 ζ ∧ Ht w0 (frz ζ :: (orow 9 1 (.slice A265 l265.length c265) l265.length d265) :: Y) w), ([7], fun w => ∃ ζ Y, Le z264 ζ ∧ Ht w0 (frz ζ :: (blk g11 [.slice A198 l198.length c198, .slice A265 l265.length c265, vi ((p0.Floor % 16).toNat : Int)] 29) :: Y) w)] (by kernel_rfl) hst268 (fun w271 hst271 => ?_)
      have hS0 := (⟨_, _, (Le.refl _), (St.up (St.up (St.up (St.up hst271 5 rfl) 5 rfl) 4 rfl) 3 rfl)⟩ : (fun w => ∃ ζ Y, Le z264 ζ ∧ Ht w0 (frz ζ :: (orow 24 4 (.slice A198 l198.length c198) l198.length d198) :: (blk g10 [.slice none 0 0, .slice none 0 0, vi 0] 29) :: (blk g9 [.slice A1 p0.Add.length c1, .slice A2 p0.Drop.length c2, vu8 p0.Floor, vb p0.Odd, vs p0.Any.Name, vi p0.Any.Kind, vi p0.Any.From, vi p0.Any.To] 32) :: Y) w) _)
      have hS1 := (⟨_, _, (Le.refl _), (St.up (St.up hst271 1 rfl) 1 rfl)⟩ : (fun w => ∃ ζ Y, Le z264 ζ ∧ Ht w0 (frz ζ :: (orow 9 1 (.slice A265 l265.length c265) l265.length d265) :: Y) w) _)
      have hS2 := (⟨_, _, (Le.refl _), (St.up (St.up hst271 3 rfl) 1 rfl)⟩ : (fun w => ∃ ζ Y, Le z264 ζ ∧ Ht w0 (frz ζ :: (blk g11 [.slice A198 l198.length c198, .slice A265 l265.length c265, vi ((p0.Floor % 16).toNat : Int)] 29) :: Y) w) _)
      refine Any.takeE 0 rfl rfl rfl rfl (by kernel_rfl) (fun _ _ _ _ _ h => h) ((Ex.fieldAddr rfl Try.underlying29 rfl sz27).s) ?_
      refine Any.take 2 1 rfl rfl rfl rfl rfl (by kernel_rfl) (fun _ _ _ _ _ h => h) (ExS.load rfl Try.underlying27 rfl (fun w hS => by obtain ⟨_, _, _, hs⟩ := hS; exact hs.cell (i := 1) rfl rfl)) hS2 ?_
      refine Any.takeE 2 rfl rfl rfl rfl (by kernel_rfl) (fun _ _ _ _ _ h => h) ((Ex.move rfl).s) ?_
      obtain ⟨y273, hy273, hf⟩ := bnd hf
      refine Any.one 3 (by kernel_rfl) rfl rfl (One.of_ops rfl ?_)
      refine Ops.call rfl rfl Try.func24 (by kernel_rfl) (by kernel_rfl) rfl (go_law10_name.walk (p0 := a219) (hst := hst271) (hf := hy273)) ?_
      rintro _ w273 ⟨z273, rfl, hz273, hst273⟩
      refine ⟨_, rfl, Ops.stop ?_⟩
      replace f218 := f218.mono hz273; replace f270 := f270.mono hz273; replace f265 := f265.mono hz273; replace f198 := f198.mono hz273; replace f1 := f1.mono hz273; replace f2 := f2.mono hz273
      replace hy268_0 := hy268_0.trans hz273
      replace hz268 := hz268.trans hz273
      replace hm272 := hm272.trans hz273
      have hS0 := (⟨_, _, hm272, (St.up (St.up (St.up (St.up hst273 5 rfl) 5 rfl) 4 rfl) 3 rfl)⟩ : (fun w => ∃ ζ Y, Le z264 ζ ∧ Ht w0 (frz ζ :: (orow 24 4 (.slice A198 l198.length c198) l198.length d198) :: (blk g10 [.slice none 0 0, .slice none 0 0, vi 0] 29) :: (blk g9 [.slice A1 p0.Add.length c1, .slice A2 p0.Drop.length c2, vu8 p0.Floor, vb p0.Odd, vs p0.Any.Name, vi p0.Any.Kind, vi p0.Any.From, vi p0.Any.To] 32) :: Y) w) _)
      have hS1 := (⟨_, _, hm272, (St.up (St.up hst273 1 rfl) 1 rfl)⟩ : (fun w => ∃ ζ Y, Le z264 ζ ∧ Ht w0 (frz ζ :: (orow 9 1 (.slice A265 l265.length c265) l265.length d265) :: Y) w) _)
      have hS2 := (⟨_, _, hm272, (St.up (St.up hst273 3 rfl) 1 rfl)⟩ : (fun w => ∃ ζ Y, Le z264 ζ ∧ Ht w0 (frz ζ :: (blk g11 [.slice A198 l198.length c198, .slice A265 l265.length c265, vi ((p0.Floor % 16).toNat : Int)] 29) :: Y) w) _)
      refine ⟨⟨.inr (fun _ => hS0), .inr (fun _ => hS1), .inr (fun _ => hS2), trivial⟩, ?_⟩
      refine Any.one 4 (by kernel_rfl) rfl rfl (One.of_ops rfl ?_)
      refine Ops.sliceF [vs y273] hst273 rfl Try.underlying27 sz9 zr9 rfl rfl (by kernel_rfl) rfl (by simp [Value.oneCell']) rfl (fun A275 w275 hst275 => Ops.stop ?_)
      have f275 : Cs tS z273 [vs y273] [y273] := (Cs.cons (c := [vs y273]) rfl (Cs.nil _ _))
      have hS0 := (⟨_, _, hm272, (St.up (St.up (St.up (St.up hst275 6 rfl) 6 rfl) 5 rfl) 3 rfl)⟩ : (fun w => ∃ ζ Y, Le z264 ζ ∧ Ht w0 (frz ζ :: (orow 24 4 (.slice A198 l198.length c198) l198.length d198) :: (blk g10 [.slice none 0 0, .slice none 0 0, vi 0] 29) :: (blk g9 [.slice A1 p0.Add.length c1, .slice A2 p0.Drop.length c2, vu8 p0.Floor, vb p0.Odd, vs p0.Any.Name, vi p0.Any.Kind, vi p0.Any.From, vi p0.Any.To] 32) :: Y) w) _)
      have hS1 := (⟨_, _, hm272, (St.up (St.up hst275 2 rfl) 1 rfl)⟩ : (fun w => ∃ ζ Y, Le z264 ζ ∧ Ht w0 (frz ζ :: (orow 9 1 (.slice A265 l265.length c265) l265.length d265) :: Y) w) _)
      have hS2 := (⟨_, _, hm272, (St.up (St.up hst275 4 rfl) 1 rfl)⟩ : (fun w => ∃ ζ Y, Le z264 ζ ∧ Ht w0 (frz ζ :: (blk g11 [.slice A198 l198.length c198, .slice A265 l265.length c265, vi ((p0.Floor % 16).toNat : Int)] 29) :: Y) w) _)
      refine ⟨⟨.inr (fun _ => hS0), .inr (fun _ => hS1), .inr (fun _ => hS2), trivial⟩, ?_⟩
      obtain ⟨l276, hy276, hf⟩ := bnd hf
      refine Any.one 5 (by kernel_rfl) rfl rfl (One.of_ops rfl ?_)
      refine Ops.app 2 hst275 rfl f265 rfl (own_slh f275 rfl (hst275.get (i := 1) rfl)) rfl hy276 rfl rfl rfl rfl Try.underlying27 inf9 rfl (by decide) (by decide) rfl (fun A276 c276 d276 w276 f276 hst276 => Ops.stop ?_)
      have hS0 := (⟨_, _, hm272, (St.up (St.up (St.up (St.up hst276 6 rfl) 6 rfl) 5 rfl) 3 rfl)⟩ : (fun w => ∃ ζ Y, Le z264 ζ ∧ Ht w0 (frz ζ :: (orow 24 4 (.slice A198 l198.length c198) l198.length d198) :: (blk g10 [.slice none 0 0, .slice none 0 0, vi 0] 29) :: (blk g9 [.slice A1 p0.Add.length c1, .slice A2 p0.Drop.length c2, vu8 p0.Floor, vb p0.Odd, vs p0.Any.Name, vi p0.Any.Kind, vi p0.Any.From, vi p0.Any.To] 32) :: Y) w) _)
      have hS2 := (⟨_, _, hm272, (St.up (St.up hst276 4 rfl) 1 rfl)⟩ : (fun w => ∃ ζ Y, Le z264 ζ ∧ Ht w0 (frz ζ :: (blk g11 [.slice A198 l198.length c198, .slice A265 l265.length c265, vi ((p0.Floor % 16).toNat : Int)] 29) :: Y) w) _)
      refine ⟨⟨.inr (fun _ => hS0), .inl (by decide), .inr (fun _ => hS2), trivial⟩, ?_⟩
      refine Any.takeE 6 rfl rfl rfl rfl (by kernel_rfl) (fun _ _ _ _ _ h => h) ((Ex.fieldAddr rfl Try.underlying29 rfl sz27).s) ?_
      refine Any.one 7 (by kernel_rfl) rfl rfl (One.of_ops rfl ?_)
      refine Ops.store 4 [.slice A276 l276.length c276] hst276 rfl rfl rfl rfl sz27 rfl (by simp [Value.oneCell']) (by simp) (fun w277 hst277 => Ops.stop ?_)
      have hS0 := (⟨_, _, hm272, (St.up (St.up (St.up (St.up hst277 6 rfl) 6 rfl) 5 rfl) 3 rfl)⟩ : (fun w => ∃ ζ Y, Le z264 ζ ∧ Ht w0 (frz ζ :: (orow 24 4 (.slice A198 l198.length c198) l198.length d198) :: (blk g10 [.slice none 0 0, .slice none 0 0, vi 0] 29) :: (blk g9 [.slice A1 p0.Add.length c1, .slice A2 p0.Drop.length c2, vu8 p0.Floor, vb p0.Odd, vs p0.Any.Name, vi p0.Any.Kind, vi p0.Any.From, vi p0.Any.To] 32) :: Y) w) _)
      refine ⟨⟨.inr (fun _ => hS0), .inl (by decide), .inl (by decide), trivial⟩, ?_⟩
      refine Any.done (by kernel_rfl) ?_
      refine Run.endBlk ?_
      refine Run.region ?_
      refine Ops.ex (Ex.add rfl rfl) rfl rfl rfl ?_
      refine Ops.ex (Ex.move rfl) rfl rfl rfl ?_
      refine Ops.nil ?_
      refine Run.re 64 rfl (congrArg vi (wr_succ' hl219 hc219)) ?_
      exact Run.sub (by exact subB_spec ⟨rfl, rfl, rfl, rfl, rfl, rfl, trivial⟩) (Run.stop ⟨l218.length - (i219 + 1), by omega, i219 + 1, l276, A276, c276, d276, z273, rfl, by omega, (hnxb219 _).symm.trans hf, rfl, hz268, hy268_0, f276, (St.forget hst277 1)⟩)
    · replace hf := forL_out hf (nlt_of_dec hc)
      try dsimp only at hf
      refine Run.exit _ rfl ?_
      refine Run.seq ?_
      refine Run.seq ?_
      refine Run.region ?_
      refine Ops.ex (Ex.fieldAddr rfl Try.underlying32 rfl sz4) rfl rfl rfl ?_
      refine Ops.load rfl Try.underlying4 rfl (hst268.cell (i := 5) rfl rfl) rfl ?_
      refine Ops.nil ?_
      refine Run.cond rfl (fun hc => ?_) (fun hc => ?_)
      · replace hf := ifTb hc hf
        refine Run.region ?_
        refine Ops.ex (Ex.fieldAddr rfl Try.underlying29 rfl sz26) rfl rfl rfl ?_
        refine Ops.load rfl Try.underlying26 rfl (hst268.cell (i := 3) rfl rfl) rfl ?_
        refine Ops.ex (Ex.fieldAddr rfl Try.underlying32 rfl sz24) rfl rfl rfl ?_
        refine Ops.loadAgg _ rfl Try.underlying24 rfl sz24 rfl (hst268.cells (i := 5) rfl 4 4) rfl ?_
        refine Ops.sliceF [vs p0.Any.Name, vi p0.Any.Kind, vi p0.Any.From, vi p0.Any.To] hst268 rfl Try.underlying26 sz24 zr24 rfl rfl (by kernel_rfl) rfl (by simp [Value.oneCell']) rfl (fun A278 w278 hst278 => ?_)
        have f278 : Cs tapiRef z264 [vs p0.Any.Name, vi p0.Any.Kind, vi p0.Any.From, vi p0.Any.To] [p0.Any] := (Cs.cons (c := [vs p0.Any.Name, vi p0.Any.Kind, vi p0.Any.From, vi p0.Any.To]) rfl (Cs.nil _ _))
        obtain ⟨l279, hy279, hf⟩ := bnd hf
        refine Ops.app 3 hst278 rfl f198 rfl (own_slh f278 rfl (hst278.get (i := 1) rfl)) rfl hy279 rfl rfl rfl rfl Try.underlying26 inf24 rfl (by decide) (by decide) rfl (fun A279 c279 d279 w279 f279 hst279 => ?_)
        refine Ops.ex (Ex.fieldAddr rfl Try.underlying29 rfl sz26) rfl rfl rfl ?_
        refine Ops.store 4 [.slice A279 l279.length c279] hst279 rfl rfl rfl rfl sz26 rfl (by simp [Value.oneCell']) (by simp) (fun w280 hst280 => ?_)
        refine Ops.nil ?_
        refine Run.seq ?_
        refine Run.region ?_
        refine Ops.loadAgg _ rfl Try.underlying29 rfl sz29 rfl (hst280.cells (i := 4) rfl 0 3) rfl ?_
        refine Ops.store 5 [.slice A279 l279.length c279, .slice A265 l265.length c265, vi ((p0.Floor % 16).toNat : Int)] hst280 rfl rfl rfl rfl sz29 rfl (by simp [Value.oneCell']) (by simp) (fun w281 hst281 => ?_)
        refine Ops.nil ?_
        obtain ⟨z282, hz282, f282, hst282⟩ := St.freeze (τ := tapiRef) (xs := l279) (St.up (St.up (St.up (St.up (St.up (St.up (St.up hst281 6 rfl) 6 rfl) 6 rfl) 5 rfl) 5 rfl) 6 rfl) 6 rfl) f279 rfl
        replace f218 := f218.mono hz282; replace f278 := f278.mono hz282; replace f265 := f265.mono hz282; replace f1 := f1.mono hz282; replace f2 := f2.mono hz282
        replace hy268_0 := hy268_0.trans hz282
        replace hz268 := hz268.trans hz282
        obtain ⟨z283, hz283, f283, hst283⟩ := St.freeze (τ := tS) (xs := l265) (St.up (St.up (St.up (St.up (St.up (St.up hst282 5 rfl) 5 rfl) 5 rfl) 4 rfl) 5 rfl) 5 rfl) f265 rfl
        replace f218 := f218.mono hz283; replace f282 := f282.mono hz283; replace f278 := f278.mono hz283; replace f1 := f1.mono hz283; replace f2 := f2.mono hz283
        replace hy268_0 := hy268_0.trans hz283
        replace hz268 := hz268.trans hz283
        obtain rfl := Option.some.inj hf
        exact Run.retV [.agg #[.slice A279 l279.length c279, .slice A265 l265.length c265, vi ((p0.Floor % 16).toNat : Int)]] rfl ⟨⟨_, rfl, run_loadN _ Try.underlying29 rfl sz29 rfl (hst283.cells (i := 3) rfl 0 3)⟩, trivial⟩ ⟨z283, A279, c279, A265, c265, rfl, hy268_0, f282, f283, (St.forget (St.forget (St.forget (St.forget hst283 4) 3) 2) 1)⟩
      · replace hf := ifFb hc hf
        refine Run.skip ?_
        refine Run.seq ?_
        refine Run.region ?_
        refine Ops.loadAgg _ rfl Try.underlying29 rfl sz29 rfl (hst268.cells (i := 3) rfl 0 3) rfl ?_
        refine Ops.store 4 [.slice A198 l198.length c198, .slice A265 l265.length c265, vi ((p0.Floor % 16).toNat : Int)] hst268 rfl rfl rfl rfl sz29 rfl (by simp [Value.oneCell']) (by simp) (fun w284 hst284 => ?_)
        refine Ops.nil ?_
        obtain ⟨z285, hz285, f285, hst285⟩ := St.freeze (τ := tapiRef) (xs := l198) (St.up (St.up (St.up (St.up (St.up (St.up hst284 5 rfl) 5 rfl) 5 rfl) 4 rfl) 5 rfl) 5 rfl) f198 rfl
        replace f218 := f218.mono hz285; replace f265 := f265.mono hz285; replace f1 := f1.mono hz285; replace f2 := f2.mono hz285
        replace hy268_0 := hy268_0.trans hz285
        replace hz268 := hz268.trans hz285
        obtain ⟨z286, hz286, f286, hst286⟩ := St.freeze (τ := tS) (xs := l265) hst285 f265 rfl
        replace f218 := f218.mono hz286; replace f285 := f285.mono hz286; replace f1 := f1.mono hz286; replace f2 := f2.mono hz286
        replace hy268_0 := hy268_0.trans hz286
        replace hz268 := hz268.trans hz286
        obtain rfl := Option.some.inj hf
        exact Run.retV [.agg #[.slice A198 l198.length c198, .slice A265 l265.length c265, vi ((p0.Floor % 16).toNat : Int)]] rfl ⟨⟨_, rfl, run_loadN _ Try.underlying29 rfl sz29 rfl (hst286.cells (i := 2) rfl 0 3)⟩, trivial⟩ ⟨z286, A198, c198, A265, c265, rfl, hy268_0, f285, f286, (St.forget (St.forget (St.forget hst286 3) 2) 1)⟩
def go_edits_Find_c1 (p0 : apiRef) (q0 : Str) : Option Bool :=
  some (decide (p0.Name = q0))
set_option maxRecDepth 100000 in
set_option maxHeartbeats 4000000 in
theorem go_edits_Find_c1.walk {w0 w : World} {X : List Res} {z0 : Zp} {p0 : apiRef} {q0 : Str} {gq0 : Nat} {r : Bool} (hst : Ht w0 (frz z0 :: (blk gq0 [vs q0] 9) :: X) w) (hf : go_edits_Find_c1 p0 q0 = some r) :
    Calls Try.prog 33 #[.agg #[vs p0.Name, vi p0.Kind, vi p0.From, vi p0.To], .pointer (some ⟨gq0, 0, none⟩)] w fun e w' => ∃ (z' : Zp), e = .returned (vb r) ∧ Le z0 z' ∧ Ht w0 (frz z' :: (blk gq0 [vs q0] 9) :: X) w' := by
  refine calls_np Try.func33 rfl rfl ?_
  have hle0 := Le.refl z0
  unfold go_edits_Find_c1 at hf
  refine Run.seq ?_
  refine Run.region ?_
  refine Ops.boxF [vs p0.Name, vi p0.Kind, vi p0.From, vi p0.To] hst rfl rfl rfl (fun g6 w6 hst6 => ?_)
  refine Ops.ex (Ex.assign rfl) rfl rfl rfl ?_
  refine Ops.nil ?_
  refine Run.seq ?_
  refine Run.region ?_
  refine Ops.ex (Ex.fieldAddr rfl Try.underlying24 rfl sz9) rfl rfl rfl ?_
  refine Ops.load rfl Try.underlying9 rfl (hst6.cell (i := 1) rfl rfl) rfl ?_
  refine Ops.load rfl Try.underlying9 rfl (hst6.cell (i := 2) rfl rfl) rfl ?_
  refine Ops.ex (Ex.eqlT rfl rfl) rfl rfl rfl ?_
  refine Ops.ex (Ex.assign rfl) rfl rfl rfl ?_
  refine Ops.nil ?_
  obtain rfl := Option.some.inj hf
  exact Run.retV [vb (decide (p0.Name = q0))] rfl ⟨rfl, trivial⟩ ⟨z0, rfl, hle0, (St.forget hst6 1)⟩
def go_slices_IndexFunc_api_Ref_api_Ref_edits_Find_c1.b1 (p1_0 : Str) (i3 : Nat) (a3 : apiRef) : Unit → (Unit → Option Int) → Option Int :=
  fun _ nxb3 => (go_edits_Find_c1 a3 p1_0).bind fun y30 => if y30 then (some (i3 : Int)) else (nxb3 ())
def go_slices_IndexFunc_api_Ref_api_Ref_edits_Find_c1 (p0 : List apiRef) (p1_0 : Str) : Option Int :=
  forL (go_slices_IndexFunc_api_Ref_api_Ref_edits_Find_c1.b1 p1_0) (fun _ => some (-1)) 0 p0 ()
set_option maxRecDepth 100000 in
set_option maxHeartbeats 4000000 in
theorem go_slices_IndexFunc_api_Ref_api_Ref_edits_Find_c1.walk {w0 w : World} {X : List Res} {z0 : Zp} {p0 : List apiRef} {A1 : Option Addr} {c1 : Nat} {p1_0 : Str} {g1_0 : Nat} {r : Int} (hst : Ht w0 (frz z0 :: (blk g1_0 [vs p1_0] 9) :: X) w) (f1 : Sl tapiRef z0 A1 c1 p0) (hf : go_slices_IndexFunc_api_Ref_api_Ref_edits_Find_c1 p0 p1_0 = some r) :
    Calls Try.prog 32 #[.slice A1 p0.length c1, .func (.func 33) #[] #[.pointer (some ⟨g1_0, 0, none⟩)]] w fun e w' => ∃ (z' : Zp), e = .returned (vi r) ∧ Le z0 z' ∧ Ht w0 (frz z' :: (blk g1_0 [vs p1_0] 9) :: X) w' := by
  refine calls_np Try.func32 rfl rfl ?_
  have hle0 := Le.refl z0
  unfold go_slices_IndexFunc_api_Ref_api_Ref_edits_Find_c1 at hf
  refine Run.seq ?_
  refine Run.region ?_
  refine Ops.ex (Ex.assign rfl) rfl rfl rfl ?_
  refine Ops.nil ?_
  refine Run.seq ?_
  refine Run.seq ?_
  refine Run.region ?_
  refine Ops.ex (Ex.move rfl) rfl rfl rfl ?_
  refine Ops.ex (Ex.len' rfl rfl rfl Try.underlying26) rfl rfl rfl ?_
  refine Ops.ex (Ex.move rfl) rfl rfl rfl ?_
  refine Ops.nil ?_
  refine Run.block ?_
  have hc3 := f1.cap
  refine Run.sub (e' := [(0, .slice A1 p0.length c1), (1, .func (.func 33) #[] #[.pointer (some ⟨g1_0, 0, none⟩)]), (7, vi (p0.length : Int)), (8, vi ((0 : Nat) : Int))]) (subB_spec ⟨rfl, rfl, rfl, rfl, trivial⟩) ?_
  refine Run.loop (fun mb3 => (fun e' w' => ∃ (i3 : Nat) (z23 : Zp), mb3 = p0.length - i3 ∧ i3 ≤ p0.length ∧ forL (go_slices_IndexFunc_api_Ref_api_Ref_edits_Find_c1.b1 p1_0) (fun _ => some (-1)) i3 (p0.drop i3) () = some r ∧ e' = [(0, .slice A1 p0.length c1), (1, .func (.func 33) #[] #[.pointer (some ⟨g1_0, 0, none⟩)]), (7, vi (p0.length : Int)), (8, vi (i3 : Int))] ∧ Le z0 z23 ∧ Ht w0 (frz z23 :: (blk g1_0 [vs p1_0] 9) :: X) w')) p0.length ⟨0, z0, rfl, Nat.zero_le _, hf, rfl, hle0, hst⟩ ?_
  rintro _ e' w24 ⟨i3, z23, rfl, hi3, hf, rfl, hz24, hst24⟩
  replace f1 := f1.mono hz24
  refine Run.seq ?_
  refine Run.region ?_
  refine Ops.ex (Ex.lss rfl rfl) rfl rfl rfl ?_
  refine Ops.nil ?_
  refine Run.seq ?_
  refine Run.cond rfl (fun hc => ?_) (fun hc => ?_)
  · have hl3 := lt_of_dec hc
    obtain ⟨a3, nxb3, ha3, hnxb3, hf⟩ := forL_in hf hl3
    unfold go_slices_IndexFunc_api_Ref_api_Ref_edits_Find_c1.b1 at hf
    try dsimp only at hf
    refine Run.skip ?_
    refine Run.seq ?_
    refine Run.block ?_
    refine Run.seq ?_
    refine Run.region ?_
    refine Ops.ex (Ex.move rfl) rfl rfl rfl ?_
    refine Ops.ex (Ex.assign rfl) rfl rfl rfl ?_
    refine Ops.nil ?_
    refine Run.seq ?_
    refine Run.region ?_
    refine Ops.ex (Ex.move rfl) rfl rfl rfl ?_
    refine Ops.ex (Ex.move rfl) rfl rfl rfl ?_
    refine Ops.ex (Ex.move rfl) rfl rfl rfl ?_
    obtain ⟨g29, p29, o29, cs29, hA29, ho29, hr29, f29⟩ := SlH.elem f1.toH (atI_nat ha3)
    obtain rfl := hr29
    refine Ops.ex (Ex.ixA hA29 ho29 (atI_nat ha3) rfl rfl rfl Try.underlying26 sz24) rfl rfl rfl ?_
    refine Ops.loadAgg [vs a3.Name, vi a3.Kind, vi a3.From, vi a3.To] rfl Try.underlying24 rfl sz24 rfl (cells_of_zc rfl (f29.mono hst24.le)) rfl ?_
    obtain ⟨y30, hy30, hf⟩ := bnd hf
    refine Ops.call rfl rfl Try.func33 (by kernel_rfl) (by kernel_rfl) rfl (go_edits_Find_c1.walk (p0 := a3) (q0 := p1_0) (hst := hst24) (hf := hy30)) ?_
    rintro _ w30 ⟨z30, rfl, hz30, hst30⟩
    refine ⟨_, rfl, ?_⟩
    replace f1 := f1.mono hz30; replace f29 := f29.mono hz30
    replace hz24 := hz24.trans hz30
    refine Ops.nil ?_
    refine Run.cond rfl (fun hc => ?_) (fun hc => ?_)
    · replace hf := ifTb hc hf
      refine Run.seq ?_
      refine Run.region ?_
      refine Ops.ex (Ex.move rfl) rfl rfl rfl ?_
      refine Ops.ex (Ex.assign rfl) rfl rfl rfl ?_
      refine Ops.nil ?_
      obtain rfl := Option.some.inj hf
      exact Run.retV [vi (i3 : Int)] rfl ⟨rfl, trivial⟩ ⟨z30, rfl, hz24, hst30⟩
    · replace hf := ifFb hc hf
      refine Run.skip ?_
      refine Run.endBlk ?_
      refine Run.region ?_
      refine Ops.ex (Ex.add rfl rfl) rfl rfl rfl ?_
      refine Ops.ex (Ex.move rfl) rfl rfl rfl ?_
      refine Ops.nil ?_
      refine Run.re 8 rfl (congrArg vi (wr_succ' hl3 hc3)) ?_
      exact Run.sub (by exact subB_spec ⟨rfl, rfl, rfl, rfl, trivial⟩) (Run.stop ⟨p0.length - (i3 + 1), by omega, i3 + 1, z30, rfl, by omega, (hnxb3 _).symm.trans hf, rfl, hz24, hst30⟩)
  · replace hf := forL_out hf (nlt_of_dec hc)
    try dsimp only at hf
    refine Run.exit _ rfl ?_
    refine Run.seq ?_
    refine Run.region ?_
    refine Ops.ex (Ex.assign rfl) rfl rfl rfl ?_
    refine Ops.nil ?_
    obtain rfl := Option.some.inj hf
    exact Run.retV [vi (-1)] rfl ⟨rfl, trivial⟩ ⟨z23, rfl, hz24, hst24⟩
def go_edits_Find (p0 : editsSet) (p1 : Str) : Option Int :=
  (go_slices_IndexFunc_api_Ref_api_Ref_edits_Find_c1 p0.Refs p1).bind fun y6 => some y6
set_option maxRecDepth 100000 in
set_option maxHeartbeats 4000000 in
theorem go_edits_Find.walk {w0 w : World} {X : List Res} {z0 : Zp} {p0 : editsSet} {A1 : Option Addr} {c1 : Nat} {p1 : Str} {r : Int} (hst : Ht w0 (frz z0 :: X) w) (f1 : Sl tapiRef z0 A1 c1 p0.Refs) (hf : go_edits_Find p0 p1 = some r) :
    Calls Try.prog 16 #[.agg #[.slice A1 p0.Refs.length c1, vi p0.Floor], vs p1] w fun e w' => ∃ (z' : Zp), e = .returned (vi r) ∧ Le z0 z' ∧ Ht w0 (frz z' :: X) w' := by
  refine calls_np Try.func16 rfl rfl ?_
  have hle0 := Le.refl z0
  unfold go_edits_Find at hf
  refine Run.seq ?_
  refine Run.region ?_
  refine Ops.boxF [.slice A1 p0.Refs.length c1, vi p0.Floor] hst rfl rfl rfl (fun g4 w4 hst4 => ?_)
  refine Ops.boxF [vs p1] hst4 rfl rfl rfl (fun g5 w5 hst5 => ?_)
  refine Ops.ex (Ex.assign rfl) rfl rfl rfl ?_
  refine Ops.nil ?_
  refine Run.seq ?_
  refine Run.region ?_
  refine Ops.ex (Ex.fieldAddr rfl Try.underlying38 rfl sz26) rfl rfl rfl ?_
  refine Ops.load rfl Try.underlying26 rfl (hst5.cell (i := 2) rfl rfl) rfl ?_
  refine Ops.ex (Ex.funcE rfl rfl) rfl rfl rfl ?_
  obtain ⟨y6, hy6, hf⟩ := bnd hf
  refine Ops.call rfl rfl Try.func32 (by kernel_rfl) (by kernel_rfl) rfl (go_slices_IndexFunc_api_Ref_api_Ref_edits_Find_c1.walk (p0 := p0.Refs) (p1_0 := p1) (hst := hst5) (f1 := f1) (hf := hy6)) ?_
  rintro _ w6 ⟨z6, rfl, hz6, hst6⟩
  refine ⟨_, rfl, ?_⟩
  replace f1 := f1.mono hz6
  replace hle0 := hle0.trans hz6
  refine Ops.ex (Ex.assign rfl) rfl rfl rfl ?_
  refine Ops.nil ?_
  obtain rfl := Option.some.inj hf
  exact Run.retV [vi y6] rfl ⟨rfl, trivial⟩ ⟨z6, rfl, hle0, (St.forget (St.forget hst6 2) 1)⟩
def go_edits_May (p0 : apiRef) : Option Bool :=
  if p0.Name = [] then (some false) else (if (p0.Name.length : Int) ≤ 16 then (if 0 ≤ p0.Kind then (if p0.Kind < 3 then (if 0 ≤ p0.From then (if p0.From ≤ p0.To then (if p0.To ≤ 1048576 then (if p0.Kind = 0 then (some (decide (p0.From = p0.To))) else (some true)) else (some false)) else (some false)) else (some false)) else (some false)) else (some false)) else (some false))
set_option maxRecDepth 100000 in
set_option maxHeartbeats 4000000 in
theorem go_edits_May.walk {w0 w : World} {X : List Res} {z0 : Zp} {p0 : apiRef} {r : Bool} (hst : Ht w0 (frz z0 :: X) w) (hf : go_edits_May p0 = some r) :
    Calls Try.prog 13 #[.agg #[vs p0.Name, vi p0.Kind, vi p0.From, vi p0.To]] w fun e w' => ∃ (z' : Zp), e = .returned (vb r) ∧ Le z0 z' ∧ Ht w0 (frz z' :: X) w' := by
  refine calls_np Try.func13 rfl rfl ?_
  have hle0 := Le.refl z0
  unfold go_edits_May at hf
  refine Run.seq ?_
  refine Run.region ?_
  refine Ops.boxF [vs p0.Name, vi p0.Kind, vi p0.From, vi p0.To] hst rfl rfl rfl (fun g5 w5 hst5 => ?_)
  refine Ops.ex (Ex.assign rfl) rfl rfl rfl ?_
  refine Ops.nil ?_
  refine Run.seq ?_
  refine Run.region ?_
  refine Ops.ex (Ex.fieldAddr rfl Try.underlying24 rfl sz9) rfl rfl rfl ?_
  refine Ops.load rfl Try.underlying9 rfl (hst5.cell (i := 1) rfl rfl) rfl ?_
  refine Ops.ex (Ex.neqT (t := []) rfl rfl) rfl rfl rfl ?_
  refine Ops.ex (Ex.move rfl) rfl rfl rfl ?_
  refine Ops.case 6 rfl (fun hc => ?_) (fun hc => ?_)
  · replace hf := ifF (neq_T hc) hf
    refine Ops.on rfl ?_
    refine Ops.ex (Ex.fieldAddr rfl Try.underlying24 rfl sz9) rfl rfl rfl ?_
    refine Ops.on rfl ?_
    refine Ops.load rfl Try.underlying9 rfl (hst5.cell (i := 1) rfl rfl) rfl ?_
    refine Ops.on rfl ?_
    refine Ops.ex (Ex.lenT rfl rfl rfl Try.underlying9) rfl rfl rfl ?_
    refine Ops.on rfl ?_
    refine Ops.ex (Ex.leq rfl rfl) rfl rfl rfl ?_
    refine Ops.ex (Ex.pickT rfl rfl) rfl rfl rfl ?_
    refine Ops.ex (Ex.move rfl) rfl rfl rfl ?_
    refine Ops.case 12 rfl (fun hc => ?_) (fun hc => ?_)
    · replace hf := ifT (dec_T hc) hf
      refine Ops.on rfl ?_
      refine Ops.ex (Ex.fieldAddr rfl Try.underlying24 rfl sz22) rfl rfl rfl ?_
      refine Ops.on rfl ?_
      refine Ops.load rfl Try.underlying22 rfl (hst5.cell (i := 1) rfl rfl) rfl ?_
      refine Ops.on rfl ?_
      refine Ops.ex (Ex.geq rfl rfl) rfl rfl rfl ?_
      refine Ops.ex (Ex.pickT rfl rfl) rfl rfl rfl ?_
      refine Ops.ex (Ex.move rfl) rfl rfl rfl ?_
      refine Ops.case 17 rfl (fun hc => ?_) (fun hc => ?_)
      · replace hf := ifT (dec_T hc) hf
        refine Ops.on rfl ?_
        refine Ops.ex (Ex.fieldAddr rfl Try.underlying24 rfl sz22) rfl rfl rfl ?_
        refine Ops.on rfl ?_
        refine Ops.load rfl Try.underlying22 rfl (hst5.cell (i := 1) rfl rfl) rfl ?_
        refine Ops.on rfl ?_
        refine Ops.ex (Ex.lss rfl rfl) rfl rfl rfl ?_
        refine Ops.ex (Ex.pickT rfl rfl) rfl rfl rfl ?_
        refine Ops.ex (Ex.move rfl) rfl rfl rfl ?_
        refine Ops.case 22 rfl (fun hc => ?_) (fun hc => ?_)
        · replace hf := ifT (dec_T hc) hf
          refine Ops.on rfl ?_
          refine Ops.ex (Ex.fieldAddr rfl Try.underlying24 rfl sz3) rfl rfl rfl ?_
          refine Ops.on rfl ?_
          refine Ops.load rfl Try.underlying3 rfl (hst5.cell (i := 1) rfl rfl) rfl ?_
          refine Ops.on rfl ?_
          refine Ops.ex (Ex.geq rfl rfl) rfl rfl rfl ?_
          refine Ops.ex (Ex.pickT rfl rfl) rfl rfl rfl ?_
          refine Ops.ex (Ex.move rfl) rfl rfl rfl ?_
          refine Ops.case 27 rfl (fun hc => ?_) (fun hc => ?_)
          · replace hf := ifT (dec_T hc) hf
            refine Ops.on rfl ?_
            refine Ops.ex (Ex.fieldAddr rfl Try.underlying24 rfl sz3) rfl rfl rfl ?_
            refine Ops.on rfl ?_
            refine Ops.load rfl Try.underlying3 rfl (hst5.cell (i := 1) rfl rfl) rfl ?_
            refine Ops.on rfl ?_
            refine Ops.ex (Ex.fieldAddr rfl Try.underlying24 rfl sz3) rfl rfl rfl ?_
            refine Ops.on rfl ?_
            refine Ops.load rfl Try.underlying3 rfl (hst5.cell (i := 1) rfl rfl) rfl ?_
            refine Ops.on rfl ?_
            refine Ops.ex (Ex.leq rfl rfl) rfl rfl rfl ?_
            refine Ops.ex (Ex.pickT rfl rfl) rfl rfl rfl ?_
            refine Ops.ex (Ex.move rfl) rfl rfl rfl ?_
            refine Ops.case 34 rfl (fun hc => ?_) (fun hc => ?_)
            · replace hf := ifT (dec_T hc) hf
              refine Ops.on rfl ?_
              refine Ops.ex (Ex.fieldAddr rfl Try.underlying24 rfl sz3) rfl rfl rfl ?_
              refine Ops.on rfl ?_
              refine Ops.load rfl Try.underlying3 rfl (hst5.cell (i := 1) rfl rfl) rfl ?_
              refine Ops.on rfl ?_
              refine Ops.ex (Ex.leq rfl rfl) rfl rfl rfl ?_
              refine Ops.ex (Ex.pickT rfl rfl) rfl rfl rfl ?_
              refine Ops.ex (Ex.move rfl) rfl rfl rfl ?_
              refine Ops.case 39 rfl (fun hc => ?_) (fun hc => ?_)
              · replace hf := ifT (dec_T hc) hf
                refine Ops.on rfl ?_
                refine Ops.ex (Ex.fieldAddr rfl Try.underlying24 rfl sz22) rfl rfl rfl ?_
                refine Ops.on rfl ?_
                refine Ops.load rfl Try.underlying22 rfl (hst5.cell (i := 1) rfl rfl) rfl ?_
                refine Ops.on rfl ?_
                refine Ops.ex (Ex.neqI rfl rfl) rfl rfl rfl ?_
                refine Ops.on rfl ?_
                refine Ops.ex (Ex.move rfl) rfl rfl rfl ?_
                refine Ops.case 43 rfl (fun hc => ?_) (fun hc => ?_)
                · replace hf := ifF (neq_T hc) hf
                  refine Ops.off rfl rfl ?_
                  refine Ops.off rfl rfl ?_
                  refine Ops.off rfl rfl ?_
                  refine Ops.off rfl rfl ?_
                  refine Ops.off rfl rfl ?_
                  refine Ops.on rfl ?_
                  refine Ops.ex (Ex.pickT rfl rfl) rfl rfl rfl ?_
                  refine Ops.ex (Ex.pickT rfl rfl) rfl rfl rfl ?_
                  refine Ops.ex (Ex.assign rfl) rfl rfl rfl ?_
                  refine Ops.nil ?_
                  obtain rfl := Option.some.inj hf
                  exact Run.retV [vb true] rfl ⟨rfl, trivial⟩ ⟨z0, rfl, hle0, (St.forget hst5 1)⟩
                · replace hf := ifT (neq_F hc) hf
                  refine Ops.on rfl ?_
                  refine Ops.ex (Ex.fieldAddr rfl Try.underlying24 rfl sz3) rfl rfl rfl ?_
                  refine Ops.on rfl ?_
                  refine Ops.load rfl Try.underlying3 rfl (hst5.cell (i := 1) rfl rfl) rfl ?_
                  refine Ops.on rfl ?_
                  refine Ops.ex (Ex.fieldAddr rfl Try.underlying24 rfl sz3) rfl rfl rfl ?_
                  refine Ops.on rfl ?_
                  refine Ops.load rfl Try.underlying3 rfl (hst5.cell (i := 1) rfl rfl) rfl ?_
                  refine Ops.on rfl ?_
                  refine Ops.ex (Ex.eqlI rfl rfl) rfl rfl rfl ?_
                  refine Ops.on rfl ?_
                  refine Ops.ex (Ex.pickF rfl rfl) rfl rfl rfl ?_
                  refine Ops.ex (Ex.pickT rfl rfl) rfl rfl rfl ?_
                  refine Ops.ex (Ex.assign rfl) rfl rfl rfl ?_
                  refine Ops.nil ?_
                  obtain rfl := Option.some.inj hf
                  exact Run.retV [vb (decide (p0.From = p0.To))] rfl ⟨rfl, trivial⟩ ⟨z0, rfl, hle0, (St.forget hst5 1)⟩
              · replace hf := ifF (dec_F hc) hf
                refine Ops.off rfl rfl ?_
                refine Ops.off rfl rfl ?_
                refine Ops.off rfl rfl ?_
                refine Ops.off rfl rfl ?_
                refine Ops.offU rfl rfl ?_
                refine Ops.offU rfl rfl ?_
                refine Ops.offU rfl rfl ?_
                refine Ops.offU rfl rfl ?_
                refine Ops.offU rfl rfl ?_
                refine Ops.off rfl rfl ?_
                refine Ops.ex (Ex.pickF rfl rfl) rfl rfl rfl ?_
                refine Ops.ex (Ex.assign rfl) rfl rfl rfl ?_
                refine Ops.nil ?_
                obtain rfl := Option.some.inj hf
                exact Run.retV [vb false] rfl ⟨rfl, trivial⟩ ⟨z0, rfl, hle0, (St.forget hst5 1)⟩
            · replace hf := ifF (dec_F hc) hf
              refine Ops.off rfl rfl ?_
              refine Ops.off rfl rfl ?_
              refine Ops.off rfl rfl ?_
              refine Ops.ex (Ex.pickF rfl rfl) rfl rfl rfl ?_
              refine Ops.ex (Ex.move rfl) rfl rfl rfl ?_
              refine Ops.off rfl rfl ?_
              refine Ops.off rfl rfl ?_
              refine Ops.off rfl rfl ?_
              refine Ops.off rfl rfl ?_
              refine Ops.offU rfl rfl ?_
              refine Ops.offU rfl rfl ?_
              refine Ops.offU rfl rfl ?_
              refine Ops.offU rfl rfl ?_
              refine Ops.offU rfl rfl ?_
              refine Ops.off rfl rfl ?_
              refine Ops.ex (Ex.pickF rfl rfl) rfl rfl rfl ?_
              refine Ops.ex (Ex.assign rfl) rfl rfl rfl ?_
              refine Ops.nil ?_
              obtain rfl := Option.some.inj hf
              exact Run.retV [vb false] rfl ⟨rfl, trivial⟩ ⟨z0, rfl, hle0, (St.forget hst5 1)⟩
          · replace hf := ifF (dec_F hc) hf
            refine Ops.off rfl rfl ?_
            refine Ops.off rfl rfl ?_
            refine Ops.off rfl rfl ?_
            refine Ops.off rfl rfl ?_
            refine Ops.off rfl rfl ?_
            refine Ops.ex (Ex.pickF rfl rfl) rfl rfl rfl ?_
            refine Ops.ex (Ex.move rfl) rfl rfl rfl ?_
            refine Ops.off rfl rfl ?_
            refine Ops.off rfl rfl ?_
            refine Ops.off rfl rfl ?_
            refine Ops.ex (Ex.pickF rfl rfl) rfl rfl rfl ?_
            refine Ops.ex (Ex.move rfl) rfl rfl rfl ?_
            refine Ops.off rfl rfl ?_
            refine Ops.off rfl rfl ?_
            refine Ops.off rfl rfl ?_
            refine Ops.off rfl rfl ?_
            refine Ops.offU rfl rfl ?_
            refine Ops.offU rfl rfl ?_
            refine Ops.offU rfl rfl ?_
            refine Ops.offU rfl rfl ?_
            refine Ops.offU rfl rfl ?_
            refine Ops.off rfl rfl ?_
            refine Ops.ex (Ex.pickF rfl rfl) rfl rfl rfl ?_
            refine Ops.ex (Ex.assign rfl) rfl rfl rfl ?_
            refine Ops.nil ?_
            obtain rfl := Option.some.inj hf
            exact Run.retV [vb false] rfl ⟨rfl, trivial⟩ ⟨z0, rfl, hle0, (St.forget hst5 1)⟩
        · replace hf := ifF (dec_F hc) hf
          refine Ops.off rfl rfl ?_
          refine Ops.off rfl rfl ?_
          refine Ops.off rfl rfl ?_
          refine Ops.ex (Ex.pickF rfl rfl) rfl rfl rfl ?_
          refine Ops.ex (Ex.move rfl) rfl rfl rfl ?_
          refine Ops.off rfl rfl ?_
          refine Ops.off rfl rfl ?_
          refine Ops.off rfl rfl ?_
          refine Ops.off rfl rfl ?_
          refine Ops.off rfl rfl ?_
          refine Ops.ex (Ex.pickF rfl rfl) rfl rfl rfl ?_
          refine Ops.ex (Ex.move rfl) rfl rfl rfl ?_
          refine Ops.off rfl rfl ?_
          refine Ops.off rfl rfl ?_
          refine Ops.off rfl rfl ?_
          refine Ops.ex (Ex.pickF rfl rfl) rfl rfl rfl ?_
          refine Ops.ex (Ex.move rfl) rfl rfl rfl ?_
          refine Ops.off rfl rfl ?_
          refine Ops.off rfl rfl ?_
          refine Ops.off rfl rfl ?_
          refine Ops.off rfl rfl ?_
          refine Ops.offU rfl rfl ?_
          refine Ops.offU rfl rfl ?_
          refine Ops.offU rfl rfl ?_
          refine Ops.offU rfl rfl ?_
          refine Ops.offU rfl rfl ?_
          refine Ops.off rfl rfl ?_
          refine Ops.ex (Ex.pickF rfl rfl) rfl rfl rfl ?_
          refine Ops.ex (Ex.assign rfl) rfl rfl rfl ?_
          refine Ops.nil ?_
          obtain rfl := Option.some.inj hf
          exact Run.retV [vb false] rfl ⟨rfl, trivial⟩ ⟨z0, rfl, hle0, (St.forget hst5 1)⟩
      · replace hf := ifF (dec_F hc) hf
        refine Ops.off rfl rfl ?_
        refine Ops.off rfl rfl ?_
        refine Ops.off rfl rfl ?_
        refine Ops.ex (Ex.pickF rfl rfl) rfl rfl rfl ?_
        refine Ops.ex (Ex.move rfl) rfl rfl rfl ?_
        refine Ops.off rfl rfl ?_
        refine Ops.off rfl rfl ?_
        refine Ops.off rfl rfl ?_
        refine Ops.ex (Ex.pickF rfl rfl) rfl rfl rfl ?_
        refine Ops.ex (Ex.move rfl) rfl rfl rfl ?_
        refine Ops.off rfl rfl ?_
        refine Ops.off rfl rfl ?_
        refine Ops.off rfl rfl ?_
        refine Ops.off rfl rfl ?_
        refine Ops.off rfl rfl ?_
        refine Ops.ex (Ex.pickF rfl rfl) rfl rfl rfl ?_
        refine Ops.ex (Ex.move rfl) rfl rfl rfl ?_
        refine Ops.off rfl rfl ?_
        refine Ops.off rfl rfl ?_
        refine Ops.off rfl rfl ?_
        refine Ops.ex (Ex.pickF rfl rfl) rfl rfl rfl ?_
        refine Ops.ex (Ex.move rfl) rfl rfl rfl ?_
        refine Ops.off rfl rfl ?_
        refine Ops.off rfl rfl ?_
        refine Ops.off rfl rfl ?_
        refine Ops.off rfl rfl ?_
        refine Ops.offU rfl rfl ?_
        refine Ops.offU rfl rfl ?_
        refine Ops.offU rfl rfl ?_
        refine Ops.offU rfl rfl ?_
        refine Ops.offU rfl rfl ?_
        refine Ops.off rfl rfl ?_
        refine Ops.ex (Ex.pickF rfl rfl) rfl rfl rfl ?_
        refine Ops.ex (Ex.assign rfl) rfl rfl rfl ?_
        refine Ops.nil ?_
        obtain rfl := Option.some.inj hf
        exact Run.retV [vb false] rfl ⟨rfl, trivial⟩ ⟨z0, rfl, hle0, (St.forget hst5 1)⟩
    · replace hf := ifF (dec_F hc) hf
      refine Ops.off rfl rfl ?_
      refine Ops.off rfl rfl ?_
      refine Ops.off rfl rfl ?_
      refine Ops.ex (Ex.pickF rfl rfl) rfl rfl rfl ?_
      refine Ops.ex (Ex.move rfl) rfl rfl rfl ?_
      refine Ops.off rfl rfl ?_
      refine Ops.off rfl rfl ?_
      refine Ops.off rfl rfl ?_
      refine Ops.ex (Ex.pickF rfl rfl) rfl rfl rfl ?_
      refine Ops.ex (Ex.move rfl) rfl rfl rfl ?_
      refine Ops.off rfl rfl ?_
      refine Ops.off rfl rfl ?_
      refine Ops.off rfl rfl ?_
      refine Ops.ex (Ex.pickF rfl rfl) rfl rfl rfl ?_
      refine Ops.ex (Ex.move rfl) rfl rfl rfl ?_
      refine Ops.off rfl rfl ?_
      refine Ops.off rfl rfl ?_
      refine Ops.off rfl rfl ?_
      refine Ops.off rfl rfl ?_
      refine Ops.off rfl rfl ?_
      refine Ops.ex (Ex.pickF rfl rfl) rfl rfl rfl ?_
      refine Ops.ex (Ex.move rfl) rfl rfl rfl ?_
      refine Ops.off rfl rfl ?_
      refine Ops.off rfl rfl ?_
      refine Ops.off rfl rfl ?_
      refine Ops.ex (Ex.pickF rfl rfl) rfl rfl rfl ?_
      refine Ops.ex (Ex.move rfl) rfl rfl rfl ?_
      refine Ops.off rfl rfl ?_
      refine Ops.off rfl rfl ?_
      refine Ops.off rfl rfl ?_
      refine Ops.off rfl rfl ?_
      refine Ops.offU rfl rfl ?_
      refine Ops.offU rfl rfl ?_
      refine Ops.offU rfl rfl ?_
      refine Ops.offU rfl rfl ?_
      refine Ops.offU rfl rfl ?_
      refine Ops.off rfl rfl ?_
      refine Ops.ex (Ex.pickF rfl rfl) rfl rfl rfl ?_
      refine Ops.ex (Ex.assign rfl) rfl rfl rfl ?_
      refine Ops.nil ?_
      obtain rfl := Option.some.inj hf
      exact Run.retV [vb false] rfl ⟨rfl, trivial⟩ ⟨z0, rfl, hle0, (St.forget hst5 1)⟩
  · replace hf := ifT (neq_F hc) hf
    refine Ops.off rfl rfl ?_
    refine Ops.off rfl rfl ?_
    refine Ops.off rfl rfl ?_
    refine Ops.off rfl rfl ?_
    refine Ops.ex (Ex.pickF rfl rfl) rfl rfl rfl ?_
    refine Ops.ex (Ex.move rfl) rfl rfl rfl ?_
    refine Ops.off rfl rfl ?_
    refine Ops.off rfl rfl ?_
    refine Ops.off rfl rfl ?_
    refine Ops.ex (Ex.pickF rfl rfl) rfl rfl rfl ?_
    refine Ops.ex (Ex.move rfl) rfl rfl rfl ?_
    refine Ops.off rfl rfl ?_
    refine Ops.off rfl rfl ?_
    refine Ops.off rfl rfl ?_
    refine Ops.ex (Ex.pickF rfl rfl) rfl rfl rfl ?_
    refine Ops.ex (Ex.move rfl) rfl rfl rfl ?_
    refine Ops.off rfl rfl ?_
    refine Ops.off rfl rfl ?_
    refine Ops.off rfl rfl ?_
    refine Ops.ex (Ex.pickF rfl rfl) rfl rfl rfl ?_
    refine Ops.ex (Ex.move rfl) rfl rfl rfl ?_
    refine Ops.off rfl rfl ?_
    refine Ops.off rfl rfl ?_
    refine Ops.off rfl rfl ?_
    refine Ops.off rfl rfl ?_
    refine Ops.off rfl rfl ?_
    refine Ops.ex (Ex.pickF rfl rfl) rfl rfl rfl ?_
    refine Ops.ex (Ex.move rfl) rfl rfl rfl ?_
    refine Ops.off rfl rfl ?_
    refine Ops.off rfl rfl ?_
    refine Ops.off rfl rfl ?_
    refine Ops.ex (Ex.pickF rfl rfl) rfl rfl rfl ?_
    refine Ops.ex (Ex.move rfl) rfl rfl rfl ?_
    refine Ops.off rfl rfl ?_
    refine Ops.off rfl rfl ?_
    refine Ops.off rfl rfl ?_
    refine Ops.off rfl rfl ?_
    refine Ops.offU rfl rfl ?_
    refine Ops.offU rfl rfl ?_
    refine Ops.offU rfl rfl ?_
    refine Ops.offU rfl rfl ?_
    refine Ops.offU rfl rfl ?_
    refine Ops.off rfl rfl ?_
    refine Ops.ex (Ex.pickF rfl rfl) rfl rfl rfl ?_
    refine Ops.ex (Ex.assign rfl) rfl rfl rfl ?_
    refine Ops.nil ?_
    obtain rfl := Option.some.inj hf
    exact Run.retV [vb false] rfl ⟨rfl, trivial⟩ ⟨z0, rfl, hle0, (St.forget hst5 1)⟩
def go_edits_Do.b2 (x22 : Int) (i249 : Nat) (a249 : apiRef) : (List apiRef) → (List apiRef → Option (editsSet × Int)) → Option (editsSet × Int) :=
  fun l309 nxb249 => (go_edits_May a249).bind fun y318 => if y318 then ((go_edits_Find (⟨l309, x22⟩ : editsSet) a249.Name).bind fun y321 => if 0 ≤ y321 then (some ((⟨[], 0⟩ : editsSet), 5)) else ((apB 40 l309 [a249]).bind fun l327 => nxb249 l327)) else (some ((⟨[], 0⟩ : editsSet), 14))
def go_edits_Do.b1 (x22 : Int) (i33 : Nat) (a33 : Str) : (List apiRef) → (List apiRef → Option (editsSet × Int)) → Option (editsSet × Int) :=
  fun l237 nxb33 => (go_edits_Find (⟨l237, x22⟩ : editsSet) a33).bind fun y241 => if y241 < 0 then (some ((⟨[], 0⟩ : editsSet), 6)) else ((go_slices_Delete_api_Ref_api_Ref l237 y241 (wr (y241 + 1))).bind fun y246 => nxb33 y246)
def go_edits_Do.j1 (p0 : editsSet) (p1 : editsEdit) (l21 : List apiRef) (x22 : Int) : Option (editsSet × Int) :=
  forL (go_edits_Do.b1 x22) (fun l237 => forL (go_edits_Do.b2 x22) (fun l309 => if p1.Floor < p0.Floor then (some ((⟨[], 0⟩ : editsSet), 8)) else (if 1048576 < p1.Floor then (some ((⟨[], 0⟩ : editsSet), 8)) else ((S1.go_sortRef l309).bind fun y331 => some ((⟨y331, x22⟩ : editsSet), 0)))) 0 p1.Add l237) 0 p1.Drop l21
def go_edits_Do (p0 : editsSet) (p1 : editsEdit) : Option (editsSet × Int) :=
  (go_slices_Clone_api_Ref_api_Ref p0.Refs).bind fun y24 => go_edits_Do.j1 p0 p1 y24 p1.Floor
set_option maxRecDepth 100000 in
set_option maxHeartbeats 4000000 in
theorem go_edits_Do.walk {w0 w : World} {X : List Res} {z0 : Zp} {p0 : editsSet} {A1 : Option Addr} {c1 : Nat} {p1 : editsEdit} {A3 : Option Addr} {c3 : Nat} {A4 : Option Addr} {c4 : Nat} {r : editsSet × Int} (hst : Ht w0 (frz z0 :: X) w) (f1 : Sl tapiRef z0 A1 c1 p0.Refs) (f3 : Sl tapiRef z0 A3 c3 p1.Add) (f4 : Sl tS z0 A4 c4 p1.Drop) (hf : go_edits_Do p0 p1 = some r) :
    Calls Try.prog 15 #[.agg #[.slice A1 p0.Refs.length c1, vi p0.Floor], .agg #[.slice A3 p1.Add.length c3, .slice A4 p1.Drop.length c4, vi p1.Floor]] w fun e w' => ∃ (z' : Zp) (A9001 : Option Addr) (c9001 : Nat), e = .returned (.tuple #[.agg #[.slice A9001 r.1.Refs.length c9001, vi r.1.Floor], vi r.2]) ∧ Le z0 z' ∧ Sl tapiRef z' A9001 c9001 r.1.Refs ∧ Ht w0 (frz z' :: X) w' := by
  refine calls_np Try.func15 rfl rfl ?_
  have hle0 := Le.refl z0
  unfold go_edits_Do at hf
  refine Run.seq ?_
  refine Run.region ?_
  refine Ops.boxF [.slice A1 p0.Refs.length c1, vi p0.Floor] hst rfl rfl rfl (fun g6 w6 hst6 => ?_)
  refine Ops.boxF [.slice A3 p1.Add.length c3, .slice A4 p1.Drop.length c4, vi p1.Floor] hst6 rfl rfl rfl (fun g7 w7 hst7 => ?_)
  refine Ops.allocF [.slice none 0 0, vi 0] hst7 zr38 rfl rfl (fun g8 w8 hst8 => ?_)
  refine Ops.ex (Ex.assign rfl) rfl rfl rfl ?_
  refine Ops.nil ?_
  refine Run.seq ?_
  apply Run.jn (fun e' w' => ∃ (l21 : List apiRef) (x22 : Int) (g20 : Nat) (A21 : Option Addr) (c21 : Nat) (d21 : List Value) (z19 : Zp), go_edits_Do.j1 p0 p1 l21 x22 = some r ∧ e' = [(2, .pointer (some ⟨g6, 0, none⟩)), (3, .pointer (some ⟨g7, 0, none⟩)), (4, .pointer (some ⟨g8, 0, none⟩)), (6, .pointer (some ⟨g20, 0, none⟩))] ∧ Le z0 z19 ∧ Cs tapiRef z19 d21 l21 ∧ Ht w0 (frz z19 :: (orow 24 4 (.slice A21 l21.length c21) l21.length d21) :: (blk g8 [.slice none 0 0, vi 0] 38) :: (blk g7 [.slice A3 p1.Add.length c3, .slice A4 p1.Drop.length c4, vi p1.Floor] 29) :: (blk g6 [.slice A1 p0.Refs.length c1, vi p0.Floor] 38) :: (blk g20 [.slice A21 l21.length c21, vi x22] 38) :: X) w')
  · intro hj9
    refine Run.drawH [([], fun w => ∃ ζ Y, Le z0 ζ ∧ Ht w0 (frz ζ :: (blk g8 [.slice none 0 0, vi 0] 38) :: (blk g7 [.slice A3 p1.Add.length c3, .slice A4 p1.Drop.length c4, vi p1.Floor] 29) :: (blk g6 [.slice A1 p0.Refs.length c1, vi p0.Floor] 38) :: Y) w)] (by kernel_rfl) hst8 (fun w23 hst23 => ?_)
    have hS0 := (⟨_, _, (Le.refl _), (St.up (St.up (St.up (St.up hst23 3 rfl) 3 rfl) 3 rfl) 3 rfl)⟩ : (fun w => ∃ ζ Y, Le z0 ζ ∧ Ht w0 (frz ζ :: (blk g8 [.slice none 0 0, vi 0] 38) :: (blk g7 [.slice A3 p1.Add.length c3, .slice A4 p1.Drop.length c4, vi p1.Floor] 29) :: (blk g6 [.slice A1 p0.Refs.length c1, vi p0.Floor] 38) :: Y) w) _)
    refine Any.takeE 0 rfl rfl rfl rfl (by kernel_rfl) (fun _ _ _ _ _ h => h) ((Ex.fieldAddr rfl Try.underlying38 rfl sz26).s) ?_
    refine Any.take 0 1 rfl rfl rfl rfl rfl (by kernel_rfl) (fun _ _ _ _ _ h => h) (ExS.load rfl Try.underlying26 rfl (fun w hS => by obtain ⟨_, _, _, hs⟩ := hS; exact hs.cell (i := 3) rfl rfl)) hS0 ?_
    refine Any.takeE 3 rfl rfl rfl rfl (by kernel_rfl) (fun _ _ _ _ _ h => h) ((Ex.fieldAddr rfl Try.underlying29 rfl sz3).s) ?_
    refine Any.take 0 4 rfl rfl rfl rfl rfl (by kernel_rfl) (fun _ _ _ _ _ h => h) (ExS.load rfl Try.underlying3 rfl (fun w hS => by obtain ⟨_, _, _, hs⟩ := hS; exact hs.cell (i := 2) rfl rfl)) hS0 ?_
    refine Any.all [2, 6] (by kernel_rfl) rfl (fun i hi => ?_)
    simp only [List.mem_cons, List.not_mem_nil, or_false] at hi
    rcases hi with rfl | rfl
    · skip
      obtain ⟨y24, hy24, hf⟩ := bnd hf
      refine ⟨_, rfl, rfl, One.of_ops rfl ?_⟩
      refine Ops.call rfl rfl Try.func27 (by kernel_rfl) (by kernel_rfl) rfl (go_slices_Clone_api_Ref_api_Ref.walk (p0 := p0.Refs) (hst := hst23) (f1 := f1) (hf := hy24)) ?_
      rintro _ w24 ⟨z24, A25, c25, d25, rfl, hz24, f25, hst24⟩
      refine ⟨_, rfl, Ops.stop ?_⟩
      replace f1 := f1.mono hz24; replace f3 := f3.mono hz24; replace f4 := f4.mono hz24
      replace hle0 := hle0.trans hz24
      have hS0 := (⟨_, _, hle0, (St.up (St.up (St.up (St.up hst24 4 rfl) 4 rfl) 4 rfl) 3 rfl)⟩ : (fun w => ∃ ζ Y, Le z0 ζ ∧ Ht w0 (frz ζ :: (blk g8 [.slice none 0 0, vi 0] 38) :: (blk g7 [.slice A3 p1.Add.length c3, .slice A4 p1.Drop.length c4, vi p1.Floor] 29) :: (blk g6 [.slice A1 p0.Refs.length c1, vi p0.Floor] 38) :: Y) w) _)
      refine ⟨⟨.inr (fun _ => hS0), trivial⟩, ?_⟩
      refine Any.takeE 5 rfl rfl rfl rfl (by kernel_rfl) (fun _ _ _ _ _ h => h) ((Ex.build [.slice A25 y24.length c25, vi p1.Floor] rfl Try.underlying38 zr38 (pl38 Try.underlying38) (by kernel_rfl)).s) ?_
      refine Any.one 6 (by kernel_rfl) rfl rfl (One.of_ops rfl ?_)
      refine Ops.allocF [.slice none 0 0, vi 0] hst24 zr38 rfl rfl (fun g26 w26 hst26 => Ops.stop ?_)
      have hS0 := (⟨_, _, hle0, (St.up (St.up (St.up (St.up hst26 5 rfl) 5 rfl) 5 rfl) 3 rfl)⟩ : (fun w => ∃ ζ Y, Le z0 ζ ∧ Ht w0 (frz ζ :: (blk g8 [.slice none 0 0, vi 0] 38) :: (blk g7 [.slice A3 p1.Add.length c3, .slice A4 p1.Drop.length c4, vi p1.Floor] 29) :: (blk g6 [.slice A1 p0.Refs.length c1, vi p0.Floor] 38) :: Y) w) _)
      refine ⟨⟨.inr (fun _ => hS0), trivial⟩, ?_⟩
      refine Any.one 7 (by kernel_rfl) rfl rfl (One.of_ops rfl ?_)
      refine Ops.store 1 [.slice A25 y24.length c25, vi p1.Floor] hst26 rfl rfl rfl rfl sz38 rfl (by simp [Value.oneCell']) (by simp) (fun w27 hst27 => Ops.stop ?_)
      have hS0 := (⟨_, _, hle0, (St.up (St.up (St.up (St.up hst27 5 rfl) 5 rfl) 5 rfl) 3 rfl)⟩ : (fun w => ∃ ζ Y, Le z0 ζ ∧ Ht w0 (frz ζ :: (blk g8 [.slice none 0 0, vi 0] 38) :: (blk g7 [.slice A3 p1.Add.length c3, .slice A4 p1.Drop.length c4, vi p1.Floor] 29) :: (blk g6 [.slice A1 p0.Refs.length c1, vi p0.Floor] 38) :: Y) w) _)
      refine ⟨⟨.inr (fun _ => hS0), trivial⟩, ?_⟩
      refine Any.done (by kernel_rfl) ?_
      exact Run.sub (by exact subB_spec ⟨rfl, rfl, rfl, rfl, trivial⟩) (hj9 _ _ ⟨y24, p1.Floor, g26, A25, c25, d25, z24, hf, rfl, hle0, f25, (St.up (St.up (St.up (St.up (St.up (St.up hst27 1 rfl) 5 rfl) 5 rfl) 5 rfl) 5 rfl) 5 rfl)⟩)
    · skip
      refine ⟨_, rfl, rfl, One.of_ops rfl ?_⟩
      refine Ops.allocF [.slice none 0 0, vi 0] hst23 zr38 rfl rfl (fun g28 w28 hst28 => Ops.stop ?_)
      have hS0 := (⟨_, _, (Le.refl _), (St.up (St.up (St.up (St.up hst28 4 rfl) 4 rfl) 4 rfl) 3 rfl)⟩ : (fun w => ∃ ζ Y, Le z0 ζ ∧ Ht w0 (frz ζ :: (blk g8 [.slice none 0 0, vi 0] 38) :: (blk g7 [.slice A3 p1.Add.length c3, .slice A4 p1.Drop.length c4, vi p1.Floor] 29) :: (blk g6 [.slice A1 p0.Refs.length c1, vi p0.Floor] 38) :: Y) w) _)
      refine ⟨⟨.inr (fun _ => hS0), trivial⟩, ?_⟩
      obtain ⟨y29, hy29, hf⟩ := bnd hf
      refine Any.one 2 (by kernel_rfl) rfl rfl (One.of_ops rfl ?_)
      refine Ops.call rfl rfl Try.func27 (by kernel_rfl) (by kernel_rfl) rfl (go_slices_Clone_api_Ref_api_Ref.walk (p0 := p0.Refs) (hst := hst28) (f1 := f1) (hf := hy29)) ?_
      rintro _ w29 ⟨z29, A30, c30, d30, rfl, hz29, f30, hst29⟩
      refine ⟨_, rfl, Ops.stop ?_⟩
      replace f1 := f1.mono hz29; replace f3 := f3.mono hz29; replace f4 := f4.mono hz29
      replace hle0 := hle0.trans hz29
      have hS0 := (⟨_, _, hle0, (St.up (St.up (St.up (St.up hst29 5 rfl) 5 rfl) 5 rfl) 3 rfl)⟩ : (fun w => ∃ ζ Y, Le z0 ζ ∧ Ht w0 (frz ζ :: (blk g8 [.slice none 0 0, vi 0] 38) :: (blk g7 [.slice A3 p1.Add.length c3, .slice A4 p1.Drop.length c4, vi p1.Floor] 29) :: (blk g6 [.slice A1 p0.Refs.length c1, vi p0.Floor] 38) :: Y) w) _)
      refine ⟨⟨.inr (fun _ => hS0), trivial⟩, ?_⟩
      refine Any.takeE 5 rfl rfl rfl rfl (by kernel_rfl) (fun _ _ _ _ _ h => h) ((Ex.build [.slice A30 y29.length c30, vi p1.Floor] rfl Try.underlying38 zr38 (pl38 Try.underlying38) (by kernel_rfl)).s) ?_
      refine Any.one 7 (by kernel_rfl) rfl rfl (One.of_ops rfl ?_)
      refine Ops.store 2 [.slice A30 y29.length c30, vi p1.Floor] hst29 rfl rfl rfl rfl sz38 rfl (by simp [Value.oneCell']) (by simp) (fun w31 hst31 => Ops.stop ?_)
      have hS0 := (⟨_, _, hle0, (St.up (St.up (St.up (St.up hst31 5 rfl) 5 rfl) 5 rfl) 3 rfl)⟩ : (fun w => ∃ ζ Y, Le z0 ζ ∧ Ht w0 (frz ζ :: (blk g8 [.slice none 0 0, vi 0] 38) :: (blk g7 [.slice A3 p1.Add.length c3, .slice A4 p1.Drop.length c4, vi p1.Floor] 29) :: (blk g6 [.slice A1 p0.Refs.length c1, vi p0.Floor] 38) :: Y) w) _)
      refine ⟨⟨.inr (fun _ => hS0), trivial⟩, ?_⟩
      refine Any.done (by kernel_rfl) ?_
      exact Run.sub (by exact subB_spec ⟨rfl, rfl, rfl, rfl, trivial⟩) (hj9 _ _ ⟨y29, p1.Floor, g28, A30, c30, d30, z29, hf, rfl, hle0, f30, (St.up (St.up (St.up (St.up (St.up (St.up hst31 2 rfl) 5 rfl) 5 rfl) 5 rfl) 5 rfl) 5 rfl)⟩)
  · rintro e' w32 ⟨l21, x22, g20, A21, c21, d21, z19, hf, rfl, hz32, f21, hst32⟩
    replace f3 := f3.mono hz32; replace f4 := f4.mono hz32; replace f1 := f1.mono hz32
    unfold go_edits_Do.j1 at hf
    refine Run.seq ?_
    refine Run.seq ?_
    refine Run.region ?_
    refine Ops.ex (Ex.fieldAddr rfl Try.underlying29 rfl sz27) rfl rfl rfl ?_
    refine Ops.load rfl Try.underlying27 rfl (hst32.cell (i := 3) rfl rfl) rfl ?_
    refine Ops.ex (Ex.len' rfl rfl rfl Try.underlying27) rfl rfl rfl ?_
    refine Ops.ex (Ex.move rfl) rfl rfl rfl ?_
    refine Ops.nil ?_
    refine Run.block ?_
    have hc33 := f4.cap
    have hm34 := Le.refl z19
    refine Run.sub (e' := [(2, .pointer (some ⟨g6, 0, none⟩)), (3, .pointer (some ⟨g7, 0, none⟩)), (4, .pointer (some ⟨g8, 0, none⟩)), (6, .pointer (some ⟨g20, 0, none⟩)), (19, .slice A4 p1.Drop.length c4), (20, vi (p1.Drop.length : Int)), (21, vi ((0 : Nat) : Int))]) (subB_spec ⟨rfl, rfl, rfl, rfl, rfl, rfl, rfl, trivial⟩) ?_
    refine Run.loop (fun mb33 => (fun e' w' => ∃ (i33 : Nat) (l237 : List apiRef) (A237 : Option Addr) (c237 : Nat) (d237 : List Value) (z236 : Zp), mb33 = p1.Drop.length - i33 ∧ i33 ≤ p1.Drop.length ∧ forL (go_edits_Do.b1 x22) (fun l237 => forL (go_edits_Do.b2 x22) (fun l309 => if p1.Floor < p0.Floor then (some ((⟨[], 0⟩ : editsSet), 8)) else (if 1048576 < p1.Floor then (some ((⟨[], 0⟩ : editsSet), 8)) else ((S1.go_sortRef l309).bind fun y331 => some ((⟨y331, x22⟩ : editsSet), 0)))) 0 p1.Add l237) i33 (p1.Drop.drop i33) l237 = some r ∧ e' = [(2, .pointer (some ⟨g6, 0, none⟩)), (3, .pointer (some ⟨g7, 0, none⟩)), (4, .pointer (some ⟨g8, 0, none⟩)), (6, .pointer (some ⟨g20, 0, none⟩)), (19, .slice A4 p1.Drop.length c4), (20, vi (p1.Drop.length : Int)), (21, vi (i33 : Int))] ∧ Le z19 z236 ∧ Le z0 z236 ∧ Cs tapiRef z236 d237 l237 ∧ Ht w0 (frz z236 :: (orow 24 4 (.slice A237 l237.length c237) l237.length d237) :: (blk g8 [.slice none 0 0, vi 0] 38) :: (blk g7 [.slice A3 p1.Add.length c3, .slice A4 p1.Drop.length c4, vi p1.Floor] 29) :: (blk g6 [.slice A1 p0.Refs.length c1, vi p0.Floor] 38) :: (blk g20 [.slice A237 l237.length c237, vi x22] 38) :: X) w')) p1.Drop.length ⟨0, l21, A21, c21, d21, z19, rfl, Nat.zero_le _, hf, rfl, hm34, hz32, f21, hst32⟩ ?_
    rintro _ e' w238 ⟨i33, l237, A237, c237, d237, z236, rfl, hi33, hf, rfl, hz238, hy238_0, f237, hst238⟩
    replace f4 := f4.mono hz238; replace f3 := f3.mono hz238; replace f1 := f1.mono hz238
    refine Run.seq ?_
    refine Run.region ?_
    refine Ops.ex (Ex.lss rfl rfl) rfl rfl rfl ?_
    refine Ops.nil ?_
    refine Run.seq ?_
    refine Run.cond rfl (fun hc => ?_) (fun hc => ?_)
    · have hl33 := lt_of_dec hc
      obtain ⟨a33, nxb33, ha33, hnxb33, hf⟩ := forL_in hf hl33
      unfold go_edits_Do.b1 at hf
      try dsimp only at hf
      refine Run.skip ?_
      refine Run.seq ?_
      refine Run.block ?_
      refine Run.seq ?_
      refine Run.region ?_
      obtain ⟨g240, p240, o240, cs240, hA240, ho240, hr240, f240⟩ := SlH.elem f4.toH (atI_nat ha33)
      obtain rfl := hr240
      refine Ops.ex (Ex.ixA hA240 ho240 (atI_nat ha33) rfl rfl rfl Try.underlying27 sz9) rfl rfl rfl ?_
      refine Ops.load rfl Try.underlying9 rfl ((f240.mono hst238.le) 0 _ rfl) rfl ?_
      refine Ops.ex (Ex.assign rfl) rfl rfl rfl ?_
      refine Ops.nil ?_
      refine Run.seq ?_
      refine Run.region ?_
      refine Ops.loadAgg _ rfl Try.underlying38 rfl sz38 rfl (hst238.cells (i := 5) rfl 0 2) rfl ?_
      refine Ops.ex (Ex.move rfl) rfl rfl rfl ?_
      obtain ⟨z242, hz242, f242, hst242, hu242⟩ := St.lend (τ := tapiRef) (xs := l237) hst238 f237 rfl
      obtain ⟨y241, hy241, hf⟩ := bnd hf
      refine Ops.call rfl rfl Try.func16 (by kernel_rfl) (by kernel_rfl) rfl (go_edits_Find.walk (p0 := (⟨l237, x22⟩ : editsSet)) (p1 := a33) (hst := hst242) (f1 := f242) (hf := hy241)) ?_
      rintro _ w241 ⟨z241, rfl, hz241, hst241⟩
      obtain ⟨z244, hz244, hst244⟩ := hu242 _ _ _ hz241 hst241
      refine ⟨_, rfl, ?_⟩
      replace f4 := f4.mono hz244; replace f240 := f240.mono hz244; replace f237 := f237.mono hz244; replace f3 := f3.mono hz244; replace f1 := f1.mono hz244
      replace hy238_0 := hy238_0.trans hz244
      replace hz238 := hz238.trans hz244
      refine Ops.ex (Ex.assign rfl) rfl rfl rfl ?_
      refine Ops.nil ?_
      refine Run.seq ?_
      refine Run.seq ?_
      refine Run.region ?_
      refine Ops.ex (Ex.move rfl) rfl rfl rfl ?_
      refine Ops.ex (Ex.lss rfl rfl) rfl rfl rfl ?_
      refine Ops.nil ?_
      refine Run.cond rfl (fun hc => ?_) (fun hc => ?_)
      · replace hf := ifT (dec_T hc) hf
        refine Run.seq ?_
        refine Run.region ?_
        refine Ops.ex (Ex.build [.slice none 0 0, vi 0] rfl Try.underlying38 zr38 (pl38 Try.underlying38) (by kernel_rfl)) rfl rfl rfl ?_
        refine Ops.store 2 [.slice none 0 0, vi 0] hst244 rfl rfl rfl rfl sz38 rfl (by simp [Value.oneCell']) (by simp) (fun w245 hst245 => ?_)
        refine Ops.ex (Ex.assign rfl) rfl rfl rfl ?_
        refine Ops.nil ?_
        obtain rfl := Option.some.inj hf
        exact Run.retV [.agg #[.slice none 0 0, vi 0], vi 6] rfl ⟨⟨_, rfl, run_loadN _ Try.underlying38 rfl sz38 rfl (hst245.cells (i := 2) rfl 0 2)⟩, rfl, trivial⟩ ⟨z244, none, 0, rfl, hy238_0, (Sl.nil _ _), (St.forget (St.forget (St.forget (St.forget (St.forget hst245 5) 4) 3) 2) 1)⟩
      · replace hf := ifF (dec_F hc) hf
        refine Run.skip ?_
        refine Run.region ?_
        refine Ops.ex (Ex.fieldAddr rfl Try.underlying38 rfl sz26) rfl rfl rfl ?_
        refine Ops.load rfl Try.underlying26 rfl (hst244.cell (i := 5) rfl rfl) rfl ?_
        refine Ops.ex (Ex.move rfl) rfl rfl rfl ?_
        refine Ops.ex (Ex.move rfl) rfl rfl rfl ?_
        refine Ops.ex (Ex.add rfl rfl) rfl rfl rfl ?_
        obtain ⟨y246, hy246, hf⟩ := bnd hf
        refine Ops.call rfl rfl Try.func28 (by kernel_rfl) (by kernel_rfl) rfl (go_slices_Delete_api_Ref_api_Ref.walk (p0 := l237) (p1 := y241) (p2 := wr (y241 + 1)) (hst := hst244) (f1 := f237) (hf := hy246)) ?_
        rintro _ w246 ⟨z246, A247, c247, d247, rfl, hz246, f247, hst246⟩
        refine ⟨_, rfl, ?_⟩
        replace f4 := f4.mono hz246; replace f240 := f240.mono hz246; replace f3 := f3.mono hz246; replace f1 := f1.mono hz246
        replace hy238_0 := hy238_0.trans hz246
        replace hz238 := hz238.trans hz246
        refine Ops.ex (Ex.fieldAddr rfl Try.underlying38 rfl sz26) rfl rfl rfl ?_
        refine Ops.store 5 [.slice A247 y246.length c247] hst246 rfl rfl rfl rfl sz26 rfl (by simp [Value.oneCell']) (by simp) (fun w248 hst248 => ?_)
        refine Ops.nil ?_
        refine Run.endBlk ?_
        refine Run.region ?_
        refine Ops.ex (Ex.add rfl rfl) rfl rfl rfl ?_
        refine Ops.ex (Ex.move rfl) rfl rfl rfl ?_
        refine Ops.nil ?_
        refine Run.re 21 rfl (congrArg vi (wr_succ' hl33 hc33)) ?_
        exact Run.sub (by exact subB_spec ⟨rfl, rfl, rfl, rfl, rfl, rfl, rfl, trivial⟩) (Run.stop ⟨p1.Drop.length - (i33 + 1), by omega, i33 + 1, y246, A247, c247, d247, z246, rfl, by omega, (hnxb33 _).symm.trans hf, rfl, hz238, hy238_0, f247, hst248⟩)
    · replace hf := forL_out hf (nlt_of_dec hc)
      try dsimp only at hf
      refine Run.exit _ rfl ?_
      refine Run.seq ?_
      refine Run.seq ?_
      refine Run.region ?_
      refine Ops.ex (Ex.fieldAddr rfl Try.underlying29 rfl sz26) rfl rfl rfl ?_
      refine Ops.load rfl Try.underlying26 rfl (hst238.cell (i := 3) rfl rfl) rfl ?_
      refine Ops.ex (Ex.len' rfl rfl rfl Try.underlying26) rfl rfl rfl ?_
      refine Ops.ex (Ex.move rfl) rfl rfl rfl ?_
      refine Ops.nil ?_
      refine Run.block ?_
      have hc249 := f3.cap
      have hm250 := Le.refl z236
      refine Run.sub (e' := [(2, .pointer (some ⟨g6, 0, none⟩)), (3, .pointer (some ⟨g7, 0, none⟩)), (4, .pointer (some ⟨g8, 0, none⟩)), (6, .pointer (some ⟨g20, 0, none⟩)), (40, .slice A3 p1.Add.length c3), (41, vi (p1.Add.length : Int)), (42, vi ((0 : Nat) : Int))]) (subB_spec ⟨rfl, rfl, rfl, rfl, rfl, rfl, rfl, trivial⟩) ?_
      refine Run.loop (fun mb249 => (fun e' w' => ∃ (i249 : Nat) (l309 : List apiRef) (A309 : Option Addr) (c309 : Nat) (d309 : List Value) (z308 : Zp), mb249 = p1.Add.length - i249 ∧ i249 ≤ p1.Add.length ∧ forL (go_edits_Do.b2 x22) (fun l309 => if p1.Floor < p0.Floor then (some ((⟨[], 0⟩ : editsSet), 8)) else (if 1048576 < p1.Floor then (some ((⟨[], 0⟩ : editsSet), 8)) else ((S1.go_sortRef l309).bind fun y331 => some ((⟨y331, x22⟩ : editsSet), 0)))) i249 (p1.Add.drop i249) l309 = some r ∧ e' = [(2, .pointer (some ⟨g6, 0, none⟩)), (3, .pointer (some ⟨g7, 0, none⟩)), (4, .pointer (some ⟨g8, 0, none⟩)), (6, .pointer (some ⟨g20, 0, none⟩)), (40, .slice A3 p1.Add.length c3), (41, vi (p1.Add.length : Int)), (42, vi (i249 : Int))] ∧ Le z236 z308 ∧ Le z0 z308 ∧ Le z19 z308 ∧ Cs tapiRef z308 d309 l309 ∧ Ht w0 (frz z308 :: (orow 24 4 (.slice A309 l309.length c309) l309.length d309) :: (blk g8 [.slice none 0 0, vi 0] 38) :: (blk g7 [.slice A3 p1.Add.length c3, .slice A4 p1.Drop.length c4, vi p1.Floor] 29) :: (blk g6 [.slice A1 p0.Refs.length c1, vi p0.Floor] 38) :: (blk g20 [.slice A309 l309.length c309, vi x22] 38) :: X) w')) p1.Add.length ⟨0, l237, A237, c237, d237, z236, rfl, Nat.zero_le _, hf, rfl, hm250, hy238_0, hz238, f237, hst238⟩ ?_
      rintro _ e' w310 ⟨i249, l309, A309, c309, d309, z308, rfl, hi249, hf, rfl, hz310, hy310_0, hy310_1, f309, hst310⟩
      replace f3 := f3.mono hz310; replace f4 := f4.mono hz310; replace f1 := f1.mono hz310
      refine Run.seq ?_
      refine Run.region ?_
      refine Ops.ex (Ex.lss rfl rfl) rfl rfl rfl ?_
      refine Ops.nil ?_
      refine Run.seq ?_
      refine Run.cond rfl (fun hc => ?_) (fun hc => ?_)
      · have hl249 := lt_of_dec hc
        obtain ⟨a249, nxb249, ha249, hnxb249, hf⟩ := forL_in hf hl249
        unfold go_edits_Do.b2 at hf
        try dsimp only at hf
        refine Run.skip ?_
        refine Run.seq ?_
        refine Run.block ?_
        refine Run.seq ?_
        refine Run.region ?_
        obtain ⟨g315, p315, o315, cs315, hA315, ho315, hr315, f315⟩ := SlH.elem f3.toH (atI_nat ha249)
        obtain rfl := hr315
        refine Ops.ex (Ex.ixA hA315 ho315 (atI_nat ha249) rfl rfl rfl Try.underlying26 sz24) rfl rfl rfl ?_
        refine Ops.loadAgg [vs a249.Name, vi a249.Kind, vi a249.From, vi a249.To] rfl Try.underlying24 rfl sz24 rfl (cells_of_zc rfl (f315.mono hst310.le)) rfl ?_
        refine Ops.allocF [vs [], vi 0, vi 0, vi 0] hst310 zr24 rfl rfl (fun g316 w316 hst316 => ?_)
        refine Ops.store 1 [vs a249.Name, vi a249.Kind, vi a249.From, vi a249.To] hst316 rfl rfl rfl rfl sz24 rfl (by simp [Value.oneCell']) (by simp) (fun w317 hst317 => ?_)
        refine Ops.nil ?_
        refine Run.seq ?_
        refine Run.block ?_
        refine Run.seq ?_
        refine Run.region ?_
        refine Ops.loadAgg _ rfl Try.underlying24 rfl sz24 rfl (hst317.cells (i := 1) rfl 0 4) rfl ?_
        obtain ⟨y318, hy318, hf⟩ := bnd hf
        refine Ops.call rfl rfl Try.func13 (by kernel_rfl) (by kernel_rfl) rfl (go_edits_May.walk (p0 := a249) (hst := hst317) (hf := hy318)) ?_
        rintro _ w318 ⟨z318, rfl, hz318, hst318⟩
        refine ⟨_, rfl, ?_⟩
        replace f3 := f3.mono hz318; replace f315 := f315.mono hz318; replace f309 := f309.mono hz318; replace f4 := f4.mono hz318; replace f1 := f1.mono hz318
        replace hy310_0 := hy310_0.trans hz318
        replace hy310_1 := hy310_1.trans hz318
        replace hz310 := hz310.trans hz318
        refine Ops.ex (Ex.not rfl) rfl rfl rfl ?_
        refine Ops.ex (Ex.assign rfl) rfl rfl rfl ?_
        refine Ops.nil ?_
        refine Run.cond rfl (fun hc => ?_) (fun hc => ?_)
        · replace hf := ifFb (bn_T hc) hf
          refine Run.seq ?_
          refine Run.region ?_
          refine Ops.ex (Ex.build [.slice none 0 0, vi 0] rfl Try.underlying38 zr38 (pl38 Try.underlying38) (by kernel_rfl)) rfl rfl rfl ?_
          refine Ops.store 3 [.slice none 0 0, vi 0] hst318 rfl rfl rfl rfl sz38 rfl (by simp [Value.oneCell']) (by simp) (fun w320 hst320 => ?_)
          refine Ops.ex (Ex.assign rfl) rfl rfl rfl ?_
          refine Ops.nil ?_
          obtain rfl := Option.some.inj hf
          exact Run.retV [.agg #[.slice none 0 0, vi 0], vi 14] rfl ⟨⟨_, rfl, run_loadN _ Try.underlying38 rfl sz38 rfl (hst320.cells (i := 3) rfl 0 2)⟩, rfl, trivial⟩ ⟨z318, none, 0, rfl, hy310_0, (Sl.nil _ _), (St.forget (St.forget (St.forget (St.forget (St.forget (St.forget hst320 6) 5) 4) 3) 2) 1)⟩
        · replace hf := ifTb (bn_F hc) hf
          refine Run.seq ?_
          refine Run.region ?_
          refine Ops.loadAgg _ rfl Try.underlying38 rfl sz38 rfl (hst318.cells (i := 6) rfl 0 2) rfl ?_
          refine Ops.ex (Ex.fieldAddr rfl Try.underlying24 rfl sz9) rfl rfl rfl ?_
          refine Ops.load rfl Try.underlying9 rfl (hst318.cell (i := 1) rfl rfl) rfl ?_
          obtain ⟨z322, hz322, f322, hst322, hu322⟩ := St.lend (τ := tapiRef) (xs := l309) (St.up (St.up (St.up (St.up (St.up (St.up (St.up hst318 6 rfl) 6 rfl) 6 rfl) 6 rfl) 5 rfl) 6 rfl) 6 rfl) f309 rfl
          obtain ⟨y321, hy321, hf⟩ := bnd hf
          refine Ops.call rfl rfl Try.func16 (by kernel_rfl) (by kernel_rfl) rfl (go_edits_Find.walk (p0 := (⟨l309, x22⟩ : editsSet)) (p1 := a249.Name) (hst := hst322) (f1 := f322) (hf := hy321)) ?_
          rintro _ w321 ⟨z321, rfl, hz321, hst321⟩
          obtain ⟨z324, hz324, hst324⟩ := hu322 _ _ _ hz321 hst321
          refine ⟨_, rfl, ?_⟩
          replace f3 := f3.mono hz324; replace f315 := f315.mono hz324; replace f309 := f309.mono hz324; replace f4 := f4.mono hz324; replace f1 := f1.mono hz324
          replace hy310_0 := hy310_0.trans hz324
          replace hy310_1 := hy310_1.trans hz324
          replace hz310 := hz310.trans hz324
          refine Ops.ex (Ex.geq rfl rfl) rfl rfl rfl ?_
          refine Ops.ex (Ex.assign rfl) rfl rfl rfl ?_
          refine Ops.nil ?_
          refine Run.cond rfl (fun hc => ?_) (fun hc => ?_)
          · replace hf := ifT (dec_T hc) hf
            refine Run.seq ?_
            refine Run.region ?_
            refine Ops.ex (Ex.build [.slice none 0 0, vi 0] rfl Try.underlying38 zr38 (pl38 Try.underlying38) (by kernel_rfl)) rfl rfl rfl ?_
            refine Ops.store 3 [.slice none 0 0, vi 0] hst324 rfl rfl rfl rfl sz38 rfl (by simp [Value.oneCell']) (by simp) (fun w325 hst325 => ?_)
            refine Ops.ex (Ex.assign rfl) rfl rfl rfl ?_
            refine Ops.nil ?_
            obtain rfl := Option.some.inj hf
            exact Run.retV [.agg #[.slice none 0 0, vi 0], vi 5] rfl ⟨⟨_, rfl, run_loadN _ Try.underlying38 rfl sz38 rfl (hst325.cells (i := 3) rfl 0 2)⟩, rfl, trivial⟩ ⟨z324, none, 0, rfl, hy310_0, (Sl.nil _ _), (St.forget (St.forget (St.forget (St.forget (St.forget (St.forget hst325 6) 5) 4) 3) 2) 1)⟩
          · replace hf := ifF (dec_F hc) hf
            refine Run.skip ?_
            refine Run.endBlk ?_
            refine Run.region ?_
            refine Ops.ex (Ex.fieldAddr rfl Try.underlying38 rfl sz26) rfl rfl rfl ?_
            refine Ops.load rfl Try.underlying26 rfl (hst324.cell (i := 6) rfl rfl) rfl ?_
            refine Ops.loadAgg _ rfl Try.underlying24 rfl sz24 rfl (hst324.cells (i := 2) rfl 0 4) rfl ?_
            refine Ops.sliceF [vs a249.Name, vi a249.Kind, vi a249.From, vi a249.To] hst324 rfl Try.underlying26 sz24 zr24 rfl rfl (by kernel_rfl) rfl (by simp [Value.oneCell']) rfl (fun A326 w326 hst326 => ?_)
            have f326 : Cs tapiRef z324 [vs a249.Name, vi a249.Kind, vi a249.From, vi a249.To] [a249] := (Cs.cons (c := [vs a249.Name, vi a249.Kind, vi a249.From, vi a249.To]) rfl (Cs.nil _ _))
            obtain ⟨l327, hy327, hf⟩ := bnd hf
            refine Ops.app 2 hst326 rfl f309 rfl (own_slh f326 rfl (hst326.get (i := 1) rfl)) rfl hy327 rfl rfl rfl rfl Try.underlying26 inf24 rfl (by decide) (by decide) rfl (fun A327 c327 d327 w327 f327 hst327 => ?_)
            refine Ops.ex (Ex.fieldAddr rfl Try.underlying38 rfl sz26) rfl rfl rfl ?_
            refine Ops.store 7 [.slice A327 l327.length c327] hst327 rfl rfl rfl rfl sz26 rfl (by simp [Value.oneCell']) (by simp) (fun w328 hst328 => ?_)
            refine Ops.nil ?_
            refine Run.endBlk ?_
            refine Run.region ?_
            refine Ops.ex (Ex.add rfl rfl) rfl rfl rfl ?_
            refine Ops.ex (Ex.move rfl) rfl rfl rfl ?_
            refine Ops.nil ?_
            refine Run.re 42 rfl (congrArg vi (wr_succ' hl249 hc249)) ?_
            exact Run.sub (by exact subB_spec ⟨rfl, rfl, rfl, rfl, rfl, rfl, rfl, trivial⟩) (Run.stop ⟨p1.Add.length - (i249 + 1), by omega, i249 + 1, l327, A327, c327, d327, z324, rfl, by omega, (hnxb249 _).symm.trans hf, rfl, hz310, hy310_0, hy310_1, f327, (St.forget (St.forget hst328 3) 1)⟩)
      · replace hf := forL_out hf (nlt_of_dec hc)
        try dsimp only at hf
        refine Run.exit _ rfl ?_
        refine Run.seq ?_
        refine Run.seq ?_
        refine Run.region ?_
        refine Ops.ex (Ex.fieldAddr rfl Try.underlying29 rfl sz3) rfl rfl rfl ?_
        refine Ops.load rfl Try.underlying3 rfl (hst310.cell (i := 3) rfl rfl) rfl ?_
        refine Ops.ex (Ex.fieldAddr rfl Try.underlying38 rfl sz3) rfl rfl rfl ?_
        refine Ops.load rfl Try.underlying3 rfl (hst310.cell (i := 4) rfl rfl) rfl ?_
        refine Ops.ex (Ex.lss rfl rfl) rfl rfl rfl ?_
        refine Ops.ex (Ex.move rfl) rfl rfl rfl ?_
        refine Ops.case 70 rfl (fun hc => ?_) (fun hc => ?_)
        · replace hf := ifT (dec_T hc) hf
          refine Ops.off rfl rfl ?_
          refine Ops.off rfl rfl ?_
          refine Ops.off rfl rfl ?_
          refine Ops.ex (Ex.pickT rfl rfl) rfl rfl rfl ?_
          refine Ops.nil ?_
          refine Run.condT rfl rfl ?_
          refine Run.seq ?_
          refine Run.region ?_
          refine Ops.ex (Ex.build [.slice none 0 0, vi 0] rfl Try.underlying38 zr38 (pl38 Try.underlying38) (by kernel_rfl)) rfl rfl rfl ?_
          refine Ops.store 2 [.slice none 0 0, vi 0] hst310 rfl rfl rfl rfl sz38 rfl (by simp [Value.oneCell']) (by simp) (fun w329 hst329 => ?_)
          refine Ops.ex (Ex.assign rfl) rfl rfl rfl ?_
          refine Ops.nil ?_
          obtain rfl := Option.some.inj hf
          exact Run.retV [.agg #[.slice none 0 0, vi 0], vi 8] rfl ⟨⟨_, rfl, run_loadN _ Try.underlying38 rfl sz38 rfl (hst329.cells (i := 2) rfl 0 2)⟩, rfl, trivial⟩ ⟨z308, none, 0, rfl, hy310_0, (Sl.nil _ _), (St.forget (St.forget (St.forget (St.forget (St.forget hst329 5) 4) 3) 2) 1)⟩
        · replace hf := ifF (dec_F hc) hf
          refine Ops.on rfl ?_
          refine Ops.ex (Ex.fieldAddr rfl Try.underlying29 rfl sz3) rfl rfl rfl ?_
          refine Ops.on rfl ?_
          refine Ops.load rfl Try.underlying3 rfl (hst310.cell (i := 3) rfl rfl) rfl ?_
          refine Ops.on rfl ?_
          refine Ops.ex (Ex.gtr rfl rfl) rfl rfl rfl ?_
          refine Ops.ex (Ex.pickF rfl rfl) rfl rfl rfl ?_
          refine Ops.nil ?_
          refine Run.cond rfl (fun hc => ?_) (fun hc => ?_)
          · replace hf := ifT (dec_T hc) hf
            refine Run.seq ?_
            refine Run.region ?_
            refine Ops.ex (Ex.build [.slice none 0 0, vi 0] rfl Try.underlying38 zr38 (pl38 Try.underlying38) (by kernel_rfl)) rfl rfl rfl ?_
            refine Ops.store 2 [.slice none 0 0, vi 0] hst310 rfl rfl rfl rfl sz38 rfl (by simp [Value.oneCell']) (by simp) (fun w330 hst330 => ?_)
            refine Ops.ex (Ex.assign rfl) rfl rfl rfl ?_
            refine Ops.nil ?_
            obtain rfl := Option.some.inj hf
            exact Run.retV [.agg #[.slice none 0 0, vi 0], vi 8] rfl ⟨⟨_, rfl, run_loadN _ Try.underlying38 rfl sz38 rfl (hst330.cells (i := 2) rfl 0 2)⟩, rfl, trivial⟩ ⟨z308, none, 0, rfl, hy310_0, (Sl.nil _ _), (St.forget (St.forget (St.forget (St.forget (St.forget hst330 5) 4) 3) 2) 1)⟩
          · replace hf := ifF (dec_F hc) hf
            refine Run.skip ?_
            refine Run.seq ?_
            refine Run.region ?_
            refine Ops.ex (Ex.fieldAddr rfl Try.underlying38 rfl sz26) rfl rfl rfl ?_
            refine Ops.load rfl Try.underlying26 rfl (hst310.cell (i := 5) rfl rfl) rfl ?_
            obtain ⟨y331, hy331, hf⟩ := bnd hf
            refine Ops.call rfl rfl Try.func29 (by kernel_rfl) (by kernel_rfl) rfl (S1.go_sortRef.walk (p0 := l309) (hst := hst310) (f1 := f309) (hn1 := rfl) (hf := hy331)) ?_
            rintro _ w331 ⟨z331, d332, rfl, hz331, f332, hn332, hst331⟩
            refine ⟨_, rfl, ?_⟩
            replace f3 := f3.mono hz331; replace f4 := f4.mono hz331; replace f1 := f1.mono hz331
            replace hy310_0 := hy310_0.trans hz331
            replace hy310_1 := hy310_1.trans hz331
            replace hz310 := hz310.trans hz331
            refine Ops.nil ?_
            refine Run.seq ?_
            refine Run.region ?_
            refine Ops.loadAgg _ rfl Try.underlying38 rfl sz38 rfl (hst331.cells (i := 5) rfl 0 2) rfl ?_
            refine Ops.store 2 [.slice A309 l309.length c309, vi x22] hst331 rfl rfl rfl rfl sz38 rfl (by simp [Value.oneCell']) (by simp) (fun w333 hst333 => ?_)
            refine Ops.ex (Ex.assign rfl) rfl rfl rfl ?_
            refine Ops.nil ?_
            obtain ⟨z334, hz334, f334, hst334⟩ := St.freeze (τ := tapiRef) (xs := y331) hst333 f332 hn332
            replace f3 := f3.mono hz334; replace f4 := f4.mono hz334; replace f1 := f1.mono hz334
            replace hy310_0 := hy310_0.trans hz334
            replace hy310_1 := hy310_1.trans hz334
            replace hz310 := hz310.trans hz334
            have hst335 : Ht w0 (frz z334 :: (blk g8 [.slice A309 l309.length c309, vi x22] 38) :: (blk g7 [.slice A3 p1.Add.length c3, .slice A4 p1.Drop.length c4, vi p1.Floor] 29) :: (blk g6 [.slice A1 p0.Refs.length c1, vi p0.Floor] 38) :: (blk g20 [.slice A309 l309.length c309, vi x22] 38) :: X) _ := hst334
            rw [← hn332] at hst335
            obtain rfl := Option.some.inj hf
            exact Run.retV [.agg #[.slice A309 y331.length c309, vi x22], vi 0] rfl ⟨⟨_, rfl, run_loadN _ Try.underlying38 rfl sz38 rfl (hst335.cells (i := 1) rfl 0 2)⟩, rfl, trivial⟩ ⟨z334, A309, c309, rfl, hy310_0, f334, (St.forget (St.forget (St.forget (St.forget hst335 4) 3) 2) 1)⟩
def go_edits_All (p0 : editsSet) : Option editsEdit :=
  (go_slices_Clone_api_Ref_api_Ref p0.Refs).bind fun y6 => some (⟨y6, [], p0.Floor⟩ : editsEdit)
set_option maxRecDepth 100000 in
set_option maxHeartbeats 4000000 in
theorem go_edits_All.walk {w0 w : World} {X : List Res} {z0 : Zp} {p0 : editsSet} {A1 : Option Addr} {c1 : Nat} {r : editsEdit} (hst : Ht w0 (frz z0 :: X) w) (f1 : Sl tapiRef z0 A1 c1 p0.Refs) (hf : go_edits_All p0 = some r) :
    Calls Try.prog 17 #[.agg #[.slice A1 p0.Refs.length c1, vi p0.Floor]] w fun e w' => ∃ (z' : Zp) (A9001 : Option Addr) (c9001 : Nat) (A9002 : Option Addr) (c9002 : Nat), e = .returned (.agg #[.slice A9001 r.Add.length c9001, .slice A9002 r.Drop.length c9002, vi r.Floor]) ∧ Le z0 z' ∧ Sl tapiRef z' A9001 c9001 r.Add ∧ Sl tS z' A9002 c9002 r.Drop ∧ Ht w0 (frz z' :: X) w' := by
  refine calls_np Try.func17 rfl rfl ?_
  have hle0 := Le.refl z0
  unfold go_edits_All at hf
  refine Run.seq ?_
  refine Run.region ?_
  refine Ops.boxF [.slice A1 p0.Refs.length c1, vi p0.Floor] hst rfl rfl rfl (fun g3 w3 hst3 => ?_)
  refine Ops.allocF [.slice none 0 0, .slice none 0 0, vi 0] hst3 zr29 rfl rfl (fun g4 w4 hst4 => ?_)
  refine Ops.nil ?_
  refine Run.seq ?_
  refine Run.drawH [([], fun w => ∃ ζ Y, Le z0 ζ ∧ Ht w0 (frz ζ :: (blk g3 [.slice A1 p0.Refs.length c1, vi p0.Floor] 38) :: Y) w), ([6], fun w => ∃ ζ Y, Le z0 ζ ∧ Ht w0 (frz ζ :: (blk g4 [.slice none 0 0, .slice none 0 0, vi 0] 29) :: Y) w)] (by kernel_rfl) hst4 (fun w5 hst5 => ?_)
  have hS0 := (⟨_, _, (Le.refl _), (St.up (St.up hst5 2 rfl) 1 rfl)⟩ : (fun w => ∃ ζ Y, Le z0 ζ ∧ Ht w0 (frz ζ :: (blk g3 [.slice A1 p0.Refs.length c1, vi p0.Floor] 38) :: Y) w) _)
  have hS1 := (⟨_, _, (Le.refl _), (St.up (St.up hst5 1 rfl) 1 rfl)⟩ : (fun w => ∃ ζ Y, Le z0 ζ ∧ Ht w0 (frz ζ :: (blk g4 [.slice none 0 0, .slice none 0 0, vi 0] 29) :: Y) w) _)
  refine Any.takeE 0 rfl rfl rfl rfl (by kernel_rfl) (fun _ _ _ _ _ h => h) ((Ex.fieldAddr rfl Try.underlying38 rfl sz26).s) ?_
  refine Any.take 0 1 rfl rfl rfl rfl rfl (by kernel_rfl) (fun _ _ _ _ _ h => h) (ExS.load rfl Try.underlying26 rfl (fun w hS => by obtain ⟨_, _, _, hs⟩ := hS; exact hs.cell (i := 1) rfl rfl)) hS0 ?_
  refine Any.takeE 3 rfl rfl rfl rfl (by kernel_rfl) (fun _ _ _ _ _ h => h) ((Ex.fieldAddr rfl Try.underlying38 rfl sz3).s) ?_
  refine Any.take 0 4 rfl rfl rfl rfl rfl (by kernel_rfl) (fun _ _ _ _ _ h => h) (ExS.load rfl Try.underlying3 rfl (fun w hS => by obtain ⟨_, _, _, hs⟩ := hS; exact hs.cell (i := 1) rfl rfl)) hS0 ?_
  obtain ⟨y6, hy6, hf⟩ := bnd hf
  refine Any.one 2 (by kernel_rfl) rfl rfl (One.of_ops rfl ?_)
  refine Ops.call rfl rfl Try.func27 (by kernel_rfl) (by kernel_rfl) rfl (go_slices_Clone_api_Ref_api_Ref.walk (p0 := p0.Refs) (hst := hst5) (f1 := f1) (hf := hy6)) ?_
  rintro _ w6 ⟨z6, A7, c7, d7, rfl, hz6, f7, hst6⟩
  refine ⟨_, rfl, Ops.stop ?_⟩
  replace f1 := f1.mono hz6
  replace hle0 := hle0.trans hz6
  have hS0 := (⟨_, _, hle0, (St.up (St.up hst6 3 rfl) 1 rfl)⟩ : (fun w => ∃ ζ Y, Le z0 ζ ∧ Ht w0 (frz ζ :: (blk g3 [.slice A1 p0.Refs.length c1, vi p0.Floor] 38) :: Y) w) _)
  have hS1 := (⟨_, _, hle0, (St.up (St.up hst6 2 rfl) 1 rfl)⟩ : (fun w => ∃ ζ Y, Le z0 ζ ∧ Ht w0 (frz ζ :: (blk g4 [.slice none 0 0, .slice none 0 0, vi 0] 29) :: Y) w) _)
  refine ⟨⟨.inr (fun _ => hS0), .inr (fun _ => hS1), trivial⟩, ?_⟩
  refine Any.takeE 5 rfl rfl rfl rfl (by kernel_rfl) (fun _ _ _ _ _ h => h) ((Ex.build [.slice A7 y6.length c7, .slice none 0 0, vi p0.Floor] rfl Try.underlying29 zr29 (pl29 Try.underlying29) (by kernel_rfl)).s) ?_
  refine Any.one 6 (by kernel_rfl) rfl rfl (One.of_ops rfl ?_)
  refine Ops.store 2 [.slice A7 y6.length c7, .slice none 0 0, vi p0.Floor] hst6 rfl rfl rfl rfl sz29 rfl (by simp [Value.oneCell']) (by simp) (fun w8 hst8 => Ops.stop ?_)
  have hS0 := (⟨_, _, hle0, (St.up (St.up hst8 3 rfl) 1 rfl)⟩ : (fun w => ∃ ζ Y, Le z0 ζ ∧ Ht w0 (frz ζ :: (blk g3 [.slice A1 p0.Refs.length c1, vi p0.Floor] 38) :: Y) w) _)
  refine ⟨⟨.inr (fun _ => hS0), .inl (by decide), trivial⟩, ?_⟩
  refine Any.done (by kernel_rfl) ?_
  obtain ⟨z9, hz9, f9, hst9⟩ := St.freeze (τ := tapiRef) (xs := y6) hst8 f7 rfl
  replace f1 := f1.mono hz9
  replace hle0 := hle0.trans hz9
  obtain rfl := Option.some.inj hf
  exact Run.retV [.agg #[.slice A7 y6.length c7, .slice none 0 0, vi p0.Floor]] rfl ⟨⟨_, rfl, run_loadN _ Try.underlying29 rfl sz29 rfl (hst9.cells (i := 1) rfl 0 3)⟩, trivial⟩ ⟨z9, A7, c7, none, 0, rfl, hle0, f9, (Sl.nil _ _), (St.forget (St.forget hst9 2) 1)⟩
def go_law10_awake : Option Bool :=
  (go_edits_Do (⟨[], 0⟩ : editsSet) (⟨[(⟨[97], 2, 1, 2⟩ : apiRef)], [], 1⟩ : editsEdit)).bind fun y4 => (go_edits_Do y4.1 (⟨[(⟨[97], 2, 1, 2⟩ : apiRef)], [], 1⟩ : editsEdit)).bind fun y12 => (go_edits_Do y4.1 (⟨[(⟨[97], 2, 1, 2⟩ : apiRef)], [[97]], 2⟩ : editsEdit)).bind fun y21 => if y4.2 = 0 then (if y12.2 = 5 then (if y21.2 = 0 then (if y21.1.Floor = 2 then ((go_edits_Find y21.1 [97]).bind fun y29 => some (decide (y29 = 0))) else (some false)) else (some false)) else (some false)) else (some false)
set_option maxRecDepth 100000 in
set_option maxHeartbeats 4000000 in
theorem go_law10_awake.walk {w0 w : World} {X : List Res} {z0 : Zp}  {r : Bool} (hst : Ht w0 (frz z0 :: X) w) (hf : go_law10_awake = some r) :
    Calls Try.prog 11 #[] w fun e w' => ∃ (z' : Zp), e = .returned (vb r) ∧ Le z0 z' ∧ Ht w0 (frz z' :: X) w' := by
  refine calls_np Try.func11 rfl rfl ?_
  have hle0 := Le.refl z0
  unfold go_law10_awake at hf
  refine Run.seq ?_
  refine Run.region ?_
  refine Ops.ex (Ex.assign rfl) rfl rfl rfl ?_
  refine Ops.nil ?_
  refine Run.seq ?_
  refine Run.region ?_
  refine Ops.ex (Ex.build [vs [97], vi 2, vi 1, vi 2] rfl Try.underlying24 zr24 (pl24 Try.underlying24) (by kernel_rfl)) rfl rfl rfl ?_
  refine Ops.allocF [vs [], vi 0, vi 0, vi 0] hst zr24 rfl rfl (fun g1 w1 hst1 => ?_)
  refine Ops.store 1 [vs [97], vi 2, vi 1, vi 2] hst1 rfl rfl rfl rfl sz24 rfl (by simp [Value.oneCell']) (by simp) (fun w2 hst2 => ?_)
  refine Ops.nil ?_
  refine Run.seq ?_
  refine Run.region ?_
  refine Ops.ex (Ex.build [.slice none 0 0, vi 0] rfl Try.underlying38 zr38 (pl38 Try.underlying38) (by kernel_rfl)) rfl rfl rfl ?_
  refine Ops.loadAgg _ rfl Try.underlying24 rfl sz24 rfl (hst2.cells (i := 1) rfl 0 4) rfl ?_
  refine Ops.sliceF [vs [97], vi 2, vi 1, vi 2] hst2 rfl Try.underlying26 sz24 zr24 rfl rfl (by kernel_rfl) rfl (by simp [Value.oneCell']) rfl (fun A3 w3 hst3 => ?_)
  have f3 : Cs tapiRef z0 [vs [97], vi 2, vi 1, vi 2] [(⟨[97], 2, 1, 2⟩ : apiRef)] := (Cs.cons (c := [vs [97], vi 2, vi 1, vi 2]) rfl (Cs.nil _ _))
  refine Ops.ex (Ex.build [.slice A3 ([(⟨[97], 2, 1, 2⟩ : apiRef)]).length 1, .slice none 0 0, vi 1] rfl Try.underlying29 zr29 (pl29 Try.underlying29) (by kernel_rfl)) rfl rfl rfl ?_
  obtain ⟨z5, hz5, f5, hst5⟩ := St.freeze (τ := tapiRef) (xs := ([(⟨[97], 2, 1, 2⟩ : apiRef)])) hst3 f3 rfl
  replace hle0 := hle0.trans hz5
  obtain ⟨y4, hy4, hf⟩ := bnd hf
  refine Ops.call rfl rfl Try.func15 (by kernel_rfl) (by kernel_rfl) rfl (go_edits_Do.walk (p0 := (⟨[], 0⟩ : editsSet)) (p1 := (⟨[(⟨[97], 2, 1, 2⟩ : apiRef)], [], 1⟩ : editsEdit)) (hst := hst5) (f1 := Sl.nil _ _) (f3 := f5) (f4 := Sl.nil _ _) (hf := hy4)) ?_
  rintro _ w4 ⟨z4, A6, c6, rfl, hz4, f6, hst4⟩
  refine ⟨_, rfl, ?_⟩
  replace f5 := f5.mono hz4
  replace hle0 := hle0.trans hz4
  refine Ops.ex (Ex.move rfl) rfl rfl rfl ?_
  refine Ops.ex (Ex.extract rfl rfl) rfl rfl rfl ?_
  refine Ops.ex (Ex.extract rfl rfl) rfl rfl rfl ?_
  refine Ops.allocF [.slice none 0 0, vi 0] hst4 zr38 rfl rfl (fun g9 w9 hst9 => ?_)
  refine Ops.store 1 [.slice A6 y4.1.Refs.length c6, vi y4.1.Floor] hst9 rfl rfl rfl rfl sz38 rfl (by simp [Value.oneCell']) (by simp) (fun w10 hst10 => ?_)
  refine Ops.ex (Ex.assign rfl) rfl rfl rfl ?_
  refine Ops.nil ?_
  refine Run.seq ?_
  refine Run.region ?_
  refine Ops.loadAgg _ rfl Try.underlying38 rfl sz38 rfl (hst10.cells (i := 1) rfl 0 2) rfl ?_
  refine Ops.loadAgg _ rfl Try.underlying24 rfl sz24 rfl (hst10.cells (i := 2) rfl 0 4) rfl ?_
  refine Ops.sliceF [vs [97], vi 2, vi 1, vi 2] hst10 rfl Try.underlying26 sz24 zr24 rfl rfl (by kernel_rfl) rfl (by simp [Value.oneCell']) rfl (fun A11 w11 hst11 => ?_)
  have f11 : Cs tapiRef z4 [vs [97], vi 2, vi 1, vi 2] [(⟨[97], 2, 1, 2⟩ : apiRef)] := (Cs.cons (c := [vs [97], vi 2, vi 1, vi 2]) rfl (Cs.nil _ _))
  refine Ops.ex (Ex.build [.slice A11 ([(⟨[97], 2, 1, 2⟩ : apiRef)]).length 1, .slice none 0 0, vi 1] rfl Try.underlying29 zr29 (pl29 Try.underlying29) (by kernel_rfl)) rfl rfl rfl ?_
  obtain ⟨z13, hz13, f13, hst13⟩ := St.freeze (τ := tapiRef) (xs := ([(⟨[97], 2, 1, 2⟩ : apiRef)])) hst11 f11 rfl
  replace f5 := f5.mono hz13; replace f6 := f6.mono hz13
  replace hle0 := hle0.trans hz13
  obtain ⟨y12, hy12, hf⟩ := bnd hf
  refine Ops.call rfl rfl Try.func15 (by kernel_rfl) (by kernel_rfl) rfl (go_edits_Do.walk (p0 := y4.1) (p1 := (⟨[(⟨[97], 2, 1, 2⟩ : apiRef)], [], 1⟩ : editsEdit)) (hst := hst13) (f1 := f6) (f3 := f13) (f4 := Sl.nil _ _) (hf := hy12)) ?_
  rintro _ w12 ⟨z12, A14, c14, rfl, hz12, f14, hst12⟩
  refine ⟨_, rfl, ?_⟩
  replace f5 := f5.mono hz12; replace f6 := f6.mono hz12; replace f13 := f13.mono hz12
  replace hle0 := hle0.trans hz12
  refine Ops.ex (Ex.move rfl) rfl rfl rfl ?_
  refine Ops.ex (Ex.extract rfl rfl) rfl rfl rfl ?_
  refine Ops.ex (Ex.extract rfl rfl) rfl rfl rfl ?_
  refine Ops.allocF [.slice none 0 0, vi 0] hst12 zr38 rfl rfl (fun g17 w17 hst17 => ?_)
  refine Ops.store 1 [.slice A14 y12.1.Refs.length c14, vi y12.1.Floor] hst17 rfl rfl rfl rfl sz38 rfl (by simp [Value.oneCell']) (by simp) (fun w18 hst18 => ?_)
  refine Ops.ex (Ex.assign rfl) rfl rfl rfl ?_
  refine Ops.nil ?_
  refine Run.seq ?_
  refine Run.region ?_
  refine Ops.loadAgg _ rfl Try.underlying38 rfl sz38 rfl (hst18.cells (i := 2) rfl 0 2) rfl ?_
  refine Ops.loadAgg _ rfl Try.underlying24 rfl sz24 rfl (hst18.cells (i := 3) rfl 0 4) rfl ?_
  refine Ops.sliceF [vs [97], vi 2, vi 1, vi 2] hst18 rfl Try.underlying26 sz24 zr24 rfl rfl (by kernel_rfl) rfl (by simp [Value.oneCell']) rfl (fun A19 w19 hst19 => ?_)
  have f19 : Cs tapiRef z12 [vs [97], vi 2, vi 1, vi 2] [(⟨[97], 2, 1, 2⟩ : apiRef)] := (Cs.cons (c := [vs [97], vi 2, vi 1, vi 2]) rfl (Cs.nil _ _))
  refine Ops.sliceF [vs [97]] hst19 rfl Try.underlying27 sz9 zr9 rfl rfl (by kernel_rfl) rfl (by simp [Value.oneCell']) rfl (fun A20 w20 hst20 => ?_)
  have f20 : Cs tS z12 [vs [97]] [[97]] := (Cs.cons (c := [vs [97]]) rfl (Cs.nil _ _))
  refine Ops.ex (Ex.build [.slice A19 ([(⟨[97], 2, 1, 2⟩ : apiRef)]).length 1, .slice A20 ([[97]]).length 1, vi 2] rfl Try.underlying29 zr29 (pl29 Try.underlying29) (by kernel_rfl)) rfl rfl rfl ?_
  obtain ⟨z22, hz22, f22, hst22⟩ := St.freeze (τ := tapiRef) (xs := ([(⟨[97], 2, 1, 2⟩ : apiRef)])) (St.up (St.up (St.up (St.up (St.up (St.up hst20 5 rfl) 5 rfl) 5 rfl) 4 rfl) 5 rfl) 5 rfl) f19 rfl
  replace f5 := f5.mono hz22; replace f6 := f6.mono hz22; replace f13 := f13.mono hz22; replace f14 := f14.mono hz22; replace f20 := f20.mono hz22
  replace hle0 := hle0.trans hz22
  obtain ⟨z23, hz23, f23, hst23⟩ := St.freeze (τ := tS) (xs := ([[97]])) hst22 f20 rfl
  replace f5 := f5.mono hz23; replace f6 := f6.mono hz23; replace f13 := f13.mono hz23; replace f14 := f14.mono hz23; replace f22 := f22.mono hz23
  replace hle0 := hle0.trans hz23
  obtain ⟨y21, hy21, hf⟩ := bnd hf
  refine Ops.call rfl rfl Try.func15 (by kernel_rfl) (by kernel_rfl) rfl (go_edits_Do.walk (p0 := y4.1) (p1 := (⟨[(⟨[97], 2, 1, 2⟩ : apiRef)], [[97]], 2⟩ : editsEdit)) (hst := hst23) (f1 := f6) (f3 := f22) (f4 := f23) (hf := hy21)) ?_
  rintro _ w21 ⟨z21, A24, c24, rfl, hz21, f24, hst21⟩
  refine ⟨_, rfl, ?_⟩
  replace f5 := f5.mono hz21; replace f6 := f6.mono hz21; replace f13 := f13.mono hz21; replace f14 := f14.mono hz21; replace f22 := f22.mono hz21; replace f23 := f23.mono hz21
  replace hle0 := hle0.trans hz21
  refine Ops.ex (Ex.move rfl) rfl rfl rfl ?_
  refine Ops.ex (Ex.extract rfl rfl) rfl rfl rfl ?_
  refine Ops.ex (Ex.extract rfl rfl) rfl rfl rfl ?_
  refine Ops.allocF [.slice none 0 0, vi 0] hst21 zr38 rfl rfl (fun g27 w27 hst27 => ?_)
  refine Ops.store 1 [.slice A24 y21.1.Refs.length c24, vi y21.1.Floor] hst27 rfl rfl rfl rfl sz38 rfl (by simp [Value.oneCell']) (by simp) (fun w28 hst28 => ?_)
  refine Ops.ex (Ex.assign rfl) rfl rfl rfl ?_
  refine Ops.nil ?_
  refine Run.seq ?_
  refine Run.region ?_
  refine Ops.ex (Ex.move rfl) rfl rfl rfl ?_
  refine Ops.ex (Ex.eqlI rfl rfl) rfl rfl rfl ?_
  refine Ops.ex (Ex.move rfl) rfl rfl rfl ?_
  refine Ops.case 36 rfl (fun hc => ?_) (fun hc => ?_)
  · replace hf := ifT (dec_T hc) hf
    refine Ops.on rfl ?_
    refine Ops.ex (Ex.move rfl) rfl rfl rfl ?_
    refine Ops.on rfl ?_
    refine Ops.ex (Ex.eqlI rfl rfl) rfl rfl rfl ?_
    refine Ops.ex (Ex.pickT rfl rfl) rfl rfl rfl ?_
    refine Ops.ex (Ex.move rfl) rfl rfl rfl ?_
    refine Ops.case 40 rfl (fun hc => ?_) (fun hc => ?_)
    · replace hf := ifT (dec_T hc) hf
      refine Ops.on rfl ?_
      refine Ops.ex (Ex.move rfl) rfl rfl rfl ?_
      refine Ops.on rfl ?_
      refine Ops.ex (Ex.eqlI rfl rfl) rfl rfl rfl ?_
      refine Ops.ex (Ex.pickT rfl rfl) rfl rfl rfl ?_
      refine Ops.ex (Ex.move rfl) rfl rfl rfl ?_
      refine Ops.case 44 rfl (fun hc => ?_) (fun hc => ?_)
      · replace hf := ifT (dec_T hc) hf
        refine Ops.on rfl ?_
        refine Ops.ex (Ex.fieldAddr rfl Try.underlying38 rfl sz3) rfl rfl rfl ?_
        refine Ops.on rfl ?_
        refine Ops.load rfl Try.underlying3 rfl (hst28.cell (i := 1) rfl rfl) rfl ?_
        refine Ops.on rfl ?_
        refine Ops.ex (Ex.eqlI rfl rfl) rfl rfl rfl ?_
        refine Ops.ex (Ex.pickT rfl rfl) rfl rfl rfl ?_
        refine Ops.ex (Ex.move rfl) rfl rfl rfl ?_
        refine Ops.case 49 rfl (fun hc => ?_) (fun hc => ?_)
        · replace hf := ifT (dec_T hc) hf
          refine Ops.on rfl ?_
          refine Ops.loadAgg _ rfl Try.underlying38 rfl sz38 rfl (hst28.cells (i := 1) rfl 0 2) rfl ?_
          refine Ops.on rfl ?_
          obtain ⟨y29, hy29, hf⟩ := bnd hf
          refine Ops.call rfl rfl Try.func16 (by kernel_rfl) (by kernel_rfl) rfl (go_edits_Find.walk (p0 := y21.1) (p1 := [97]) (hst := hst28) (f1 := f24) (hf := hy29)) ?_
          rintro _ w29 ⟨z29, rfl, hz29, hst29⟩
          refine ⟨_, rfl, ?_⟩
          replace f5 := f5.mono hz29; replace f6 := f6.mono hz29; replace f13 := f13.mono hz29; replace f14 := f14.mono hz29; replace f22 := f22.mono hz29; replace f23 := f23.mono hz29; replace f24 := f24.mono hz29
          replace hle0 := hle0.trans hz29
          refine Ops.on rfl ?_
          refine Ops.ex (Ex.eqlI rfl rfl) rfl rfl rfl ?_
          refine Ops.ex (Ex.pickT rfl rfl) rfl rfl rfl ?_
          refine Ops.ex (Ex.assign rfl) rfl rfl rfl ?_
          refine Ops.nil ?_
          obtain rfl := Option.some.inj hf
          exact Run.retV [vb (decide (y29 = 0))] rfl ⟨rfl, trivial⟩ ⟨z29, rfl, hle0, (St.forget (St.forget (St.forget (St.forget hst29 4) 3) 2) 1)⟩
        · replace hf := ifF (dec_F hc) hf
          refine Ops.off rfl rfl ?_
          refine Ops.off rfl rfl ?_
          refine Ops.off rfl rfl ?_
          refine Ops.ex (Ex.pickF rfl rfl) rfl rfl rfl ?_
          refine Ops.ex (Ex.assign rfl) rfl rfl rfl ?_
          refine Ops.nil ?_
          obtain rfl := Option.some.inj hf
          exact Run.retV [vb false] rfl ⟨rfl, trivial⟩ ⟨z21, rfl, hle0, (St.forget (St.forget (St.forget (St.forget hst28 4) 3) 2) 1)⟩
      · replace hf := ifF (dec_F hc) hf
        refine Ops.off rfl rfl ?_
        refine Ops.off rfl rfl ?_
        refine Ops.off rfl rfl ?_
        refine Ops.ex (Ex.pickF rfl rfl) rfl rfl rfl ?_
        refine Ops.ex (Ex.move rfl) rfl rfl rfl ?_
        refine Ops.off rfl rfl ?_
        refine Ops.off rfl rfl ?_
        refine Ops.off rfl rfl ?_
        refine Ops.ex (Ex.pickF rfl rfl) rfl rfl rfl ?_
        refine Ops.ex (Ex.assign rfl) rfl rfl rfl ?_
        refine Ops.nil ?_
        obtain rfl := Option.some.inj hf
        exact Run.retV [vb false] rfl ⟨rfl, trivial⟩ ⟨z21, rfl, hle0, (St.forget (St.forget (St.forget (St.forget hst28 4) 3) 2) 1)⟩
    · replace hf := ifF (dec_F hc) hf
      refine Ops.off rfl rfl ?_
      refine Ops.off rfl rfl ?_
      refine Ops.ex (Ex.pickF rfl rfl) rfl rfl rfl ?_
      refine Ops.ex (Ex.move rfl) rfl rfl rfl ?_
      refine Ops.off rfl rfl ?_
      refine Ops.off rfl rfl ?_
      refine Ops.off rfl rfl ?_
      refine Ops.ex (Ex.pickF rfl rfl) rfl rfl rfl ?_
      refine Ops.ex (Ex.move rfl) rfl rfl rfl ?_
      refine Ops.off rfl rfl ?_
      refine Ops.off rfl rfl ?_
      refine Ops.off rfl rfl ?_
      refine Ops.ex (Ex.pickF rfl rfl) rfl rfl rfl ?_
      refine Ops.ex (Ex.assign rfl) rfl rfl rfl ?_
      refine Ops.nil ?_
      obtain rfl := Option.some.inj hf
      exact Run.retV [vb false] rfl ⟨rfl, trivial⟩ ⟨z21, rfl, hle0, (St.forget (St.forget (St.forget (St.forget hst28 4) 3) 2) 1)⟩
  · replace hf := ifF (dec_F hc) hf
    refine Ops.off rfl rfl ?_
    refine Ops.off rfl rfl ?_
    refine Ops.ex (Ex.pickF rfl rfl) rfl rfl rfl ?_
    refine Ops.ex (Ex.move rfl) rfl rfl rfl ?_
    refine Ops.off rfl rfl ?_
    refine Ops.off rfl rfl ?_
    refine Ops.ex (Ex.pickF rfl rfl) rfl rfl rfl ?_
    refine Ops.ex (Ex.move rfl) rfl rfl rfl ?_
    refine Ops.off rfl rfl ?_
    refine Ops.off rfl rfl ?_
    refine Ops.off rfl rfl ?_
    refine Ops.ex (Ex.pickF rfl rfl) rfl rfl rfl ?_
    refine Ops.ex (Ex.move rfl) rfl rfl rfl ?_
    refine Ops.off rfl rfl ?_
    refine Ops.off rfl rfl ?_
    refine Ops.off rfl rfl ?_
    refine Ops.ex (Ex.pickF rfl rfl) rfl rfl rfl ?_
    refine Ops.ex (Ex.assign rfl) rfl rfl rfl ?_
    refine Ops.nil ?_
    obtain rfl := Option.some.inj hf
    exact Run.retV [vb false] rfl ⟨rfl, trivial⟩ ⟨z21, rfl, hle0, (St.forget (St.forget (St.forget (St.forget hst28 4) 3) 2) 1)⟩
end Go.Proofs.Ytjlhookdigbjhaa.E2
