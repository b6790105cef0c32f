/- Part D of the second layer: small words, pointers that may be nil. -/
import Derived.Test.YtiekoeapmhhjbaaGreatDoorGnC
namespace Go.Proofs.YtiekoeapmhhjbaaGreatDoor.Sx
open Go Go.RowKit
set_option linter.unusedVariables false
set_option linter.unusedSimpArgs false
section
variable {P : Program} {n : Fm} {Qf : Exit → Act → World → Prop} {k k2 : List It} {e : Env} {w w' w0 : World} {H : List Res} {R R0 : Res} {ζ ζ' : Zp} {ops : Array Oper} {rest : List Oper} {T : TypeId} {pos : String} {af : Array Edge} {d : Nat} {α : Type}
theorem Sl.cap {τ : Ty α} {A : Option Addr} {c : Nat} {xs : List α} (h : Sl τ ζ A c xs) : xs.length ≤ maxLen := Nat.le_trans h.1 h.2.1
theorem SlH.cap {τ : Ty α} {A : Option Addr} {c : Nat} {xs : List α} (h : SlH τ ζ ζ' A c xs) : xs.length ≤ maxLen := Nat.le_trans h.1 h.2.1
theorem SlH.toS {τ : Ty α} {A : Option Addr} {c : Nat} {xs : List α} (h : SlH τ ζ ζ A c xs) : Sl τ ζ A c xs := h
theorem wr_succ' {i l : Nat} (h : i < l) (hl : l ≤ maxLen) : wr ((i : Int) + 1) = ((i + 1 : Nat) : Int) := wr_succ h (Nat.le_refl _) hl
def nzI (b : Int) : Option Unit := if b = 0 then none else some ()
theorem nzI_some {b : Int} {u : Unit} (h : nzI b = some u) : b ≠ 0 := by
  unfold nzI at h
  split at h
  · cases h
  · assumption
def catI (s t : Str) : Option Str := if s.length + t.length ≤ 9223372036854775807 then some (s ++ t) else none
theorem catI_some {s t u : Str} (h : catI s t = some u) : s.length + t.length ≤ 9223372036854775807 ∧ u = s ++ t := by
  unfold catI at h
  split at h
  · exact ⟨by assumption, by simpa using h.symm⟩
  · cases h
theorem Ex.addT {xt yt : TypeId} {x y : Operand} {s t u : Str} (h : catI s t = some u) (hx : ev e x = some (vs s)) (hy : ev e y = some (vs t)) : Ex P e ⟨some d, .binOp .add xt x y yt, T, pos, af, none⟩ (vs u) := by
  obtain ⟨h1, rfl⟩ := catI_some h
  refine Ex.eq (Ex.addS (by simpa [ByteArray.size] using h1) hx hy) (congrArg Value.string ?_)
  apply ByteArray.ext
  simp [ByteArray.data_append]
theorem Ex.cSS {src dst : TypeId} {x : Operand} {s : Str} (hx : ev e x = some (vs s)) (hs : P.underlying src = some .string) (ht : P.underlying dst = some .string) : Ex P e ⟨some d, .convert src dst x, T, pos, af, none⟩ (vs s) := fun c hc w => by
  simp [execOp, hc _ _ hx, convert, run_underlying hs, run_underlying ht]
/-! ### A guard that was passed over itself -/
def undefG (ops : Array Oper) (e : Env) (j : Nat) : Bool := match ((ops[j]?).bind (·.dst)) with
  | some t => match Sx.look e t with
    | some (.tuple _) => true
    | _ => false
  | none => false
theorem wanted_undef {o : Oper} {a : Act} {j : Nat} {b : Bool} (ha : Has n e a) (ho : o.guard = some (j, b)) (hg : undefG ops e j = true) : Region.wanted o (yielded ops a.tmps) = false := by
  unfold undefG at hg
  unfold Region.wanted
  simp only [ho]
  unfold yielded
  cases ht : ((ops[j]?).bind (·.dst)) with
  | none => simp [ht] at hg
  | some t =>
    simp only [ht] at hg
    cases hl : Sx.look e t with
    | none => simp [hl] at hg
    | some u =>
      cases u <;> simp [hl] at hg
      have := ha.at_ t _ hl
      simp [this]
theorem Ops.offU {op : Op} {j : Nat} {b : Bool} (hg : undefG ops e j = true) (hn : Nat.blt d n.size = true) (h : Ops P n Qf k ops rest ((d, undef) :: e) w) : Ops P n Qf k ops (⟨some d, op, T, pos, af, some (j, b)⟩ :: rest) e w := by
  intro a ha
  unfold wpListIn
  rw [if_neg (by rw [wanted_undef (o := ⟨some d, op, T, pos, af, some (j, b)⟩) ha rfl hg]; simp)]
  exact ⟨fun _ _ => trivial, h _ (ha.put d hn _)⟩
theorem Any.passU {SL : List (List Nat × (World → Prop))} {fuel : Nat} {l : List Nat} (i : Nat) {o : Oper} {j : Nat} {b : Bool} (hi : ops[i]? = some o) (ho : o.guard = some (j, b)) (hg : undefG ops e j = true) (hd : o.dst = some d) (hn : Nat.blt d n.size = true)
    (hb : (Region.noSelect ops && Region.free .any ops (markOf ops l) i && (Region.ready .any ops (markOf ops l)).contains i && closedB ops (markOf ops l) && noDefer ops) = true) (hR : ∀ c a d v w, Qf (.panic c) (Act.put a d v) w → Qf (.panic c) a w)
    (h : Any P n Qf k ops SL fuel (l ++ [i]) ((d, undef) :: e) w) : Any P n Qf k ops SL (fuel + 1) l e w := by
  intro a ha
  simp only [Bool.and_eq_true] at hb
  refine wpAnyK_firstP (v := undef) hi (Region.noSelect_spec hb.1.1.1.1) (fun c a w h => ?_) hb.2 fuel _ a w (closedB_spec hb.1.2) (Region.free_spec hi hb.1.1.1.2) (by simpa using hb.1.1.2) (.inr ⟨wanted_undef ha ho hg, rfl⟩) ?_
  · rw [QQ_panic] at h ⊢; exact hR _ _ _ _ _ h
  · have := h _ (ha.put d hn undef)
    rw [markOf_snoc] at this
    rw [hd]; exact this
/-! ### Pointers to what stands still -/
def Pp (τ : Ty α) (ζ : Zp) (A : Option Addr) (x : Option α) : Prop := (A = none ∧ x = none) ∨ ∃ g o cs y, A = some ⟨g, o, none⟩ ∧ x = some y ∧ Zc ζ g o cs ∧ τ.R ζ cs y
theorem Pp.nil (τ : Ty α) (ζ : Zp) : Pp τ ζ none none := .inl ⟨rfl, rfl⟩
theorem Pp.mk {τ : Ty α} {g o : Nat} {cs : List Value} {y : α} (hz : Zc ζ g o cs) (hr : τ.R ζ cs y) : Pp τ ζ (some ⟨g, o, none⟩) (some y) := .inr ⟨g, o, cs, y, rfl, rfl, hz, hr⟩
theorem Pp.mono {τ : Ty α} {A : Option Addr} {x : Option α} (h : Pp τ ζ A x) (hl : Le ζ ζ') : Pp τ ζ' A x := by
  rcases h with h | ⟨g, o, cs, y, rfl, rfl, hz, hr⟩
  · exact .inl h
  · exact .inr ⟨g, o, cs, y, rfl, rfl, hz.mono hl, τ.mono hr hl⟩
theorem Pp.some {τ : Ty α} {A : Option Addr} {x : Option α} {y : α} (h : Pp τ ζ A x) (hx : x = some y) : ∃ g o cs, A = Option.some ⟨g, o, none⟩ ∧ Zc ζ g o cs ∧ τ.R ζ cs y := by
  rcases h with ⟨_, rfl⟩ | ⟨g, o, cs, z, rfl, rfl, hz, hr⟩
  · cases hx
  · cases hx; exact ⟨g, o, cs, rfl, hz, hr⟩
def tP (τ : Ty α) : Ty (Option α) where
  sz := 1
  R := fun ζ cs x => ∃ A, cs = [.pointer A] ∧ Pp τ ζ A x
  len := by rintro _ _ _ ⟨A, rfl, _⟩; rfl
  one := by rintro _ _ x ⟨A, rfl, _⟩ u hu; rw [List.mem_singleton] at hu; subst hu; rfl
  mono := by rintro _ _ _ _ ⟨A, rfl, h⟩ hl; exact ⟨A, rfl, h.mono hl⟩
theorem Ex.nilP {x : Operand} {A : Option Addr} {ad : Addr} (hA : A = some ad) (hx : ev e x = some (.pointer A)) : Ex P e ⟨some d, .nilCheck x, T, pos, af, none⟩ (.pointer (some ad)) := by
  subst hA
  exact Ex.nilCheck hx
theorem run_eqNil {t et : TypeId} (A : Option Addr) (m : Nat) (ht : P.underlying t = some (.pointer et)) : (Op.equalIn (m + 1) t (.pointer A) (.pointer none)).run P w = .ok A.isNone w := by
  cases A <;> simp [Op.equalIn, run_underlying ht]
theorem Ex.eqlP {τ : Ty α} {xt yt et : TypeId} {x y : Operand} {A : Option Addr} {o : Option α} [DecidableEq α] (h : Pp τ ζ A o) (hx : ev e x = some (.pointer A)) (hy : ev e y = some (.pointer none)) (ht : P.underlying xt = some (.pointer et)) : Ex P e ⟨some d, .binOp .eql xt x y yt, T, pos, af, none⟩ (vb (decide (o = none))) := fun c hc w => by
  have h1 : (Op.equal xt (.pointer A) (.pointer none)).run P w = .ok A.isNone w := run_eqNil A 9999 ht
  have h2 : A.isNone = decide (o = none) := by rcases h with ⟨rfl, rfl⟩ | ⟨g, o, cs, y, rfl, rfl, _⟩ <;> simp
  simp only [execOp, hc _ _ hx, hc _ _ hy, binOp, eqGuard]
  simp [h1, h2]
theorem Ex.neqP {τ : Ty α} {xt yt et : TypeId} {x y : Operand} {A : Option Addr} {o : Option α} [DecidableEq α] (h : Pp τ ζ A o) (hx : ev e x = some (.pointer A)) (hy : ev e y = some (.pointer none)) (ht : P.underlying xt = some (.pointer et)) : Ex P e ⟨some d, .binOp .neq xt x y yt, T, pos, af, none⟩ (vb (!decide (o = none))) := fun c hc w => by
  have h1 : (Op.equal xt (.pointer A) (.pointer none)).run P w = .ok A.isNone w := run_eqNil A 9999 ht
  have h2 : A.isNone = decide (o = none) := by rcases h with ⟨rfl, rfl⟩ | ⟨g, o, cs, y, rfl, rfl, _⟩ <;> simp
  simp only [execOp, hc _ _ hx, hc _ _ hy, binOp, eqGuard]
  simp [h1, h2]
end
end Go.Proofs.YtiekoeapmhhjbaaGreatDoor.Sx
