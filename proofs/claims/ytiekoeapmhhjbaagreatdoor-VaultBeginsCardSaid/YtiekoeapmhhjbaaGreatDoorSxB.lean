/- A small logic of walks, part B: operations that do not look at memory. -/
import Derived.Test.YtiekoeapmhhjbaaGreatDoorSxA
namespace Go.Proofs.YtiekoeapmhhjbaaGreatDoor.Sx
open Go
set_option linter.unusedVariables false
set_option linter.unusedSimpArgs false
variable {P : Program} {n : Fm} {Qf : Exit → Act → World → Prop} {k : List It} {e : Env} {w w' : World} {ops : Array Oper} {rest : List Oper} {T : TypeId} {pos : String} {af : Array Edge} {d : Nat}

theorem Ops.val {o : Oper} {v : Value} (hg : o.guard = none) (hd : o.dst = some d) (hn : Nat.blt d n.size = true)
    (hrun : ∀ ρ : Operand → Value, (∀ x v, ev e x = some v → ρ x = v) → (execOp ρ o).run P w = .ok (.value v) w') (h : Ops P n Qf k ops rest ((d, v) :: e) w') (hdf : ∀ c, o.op ≠ .defer c := by intro c h; cases h) : Ops P n Qf k ops (o :: rest) e w := by
  intro a ha
  unfold wpListIn
  rw [if_pos (by simp [Region.wanted, hg])]
  refine ⟨fun _ _ => trivial, ?_⟩
  rw [Oper.semAt_eq _ _ _ hdf, hrun a.eval (fun x v hx => ha.eval hx), Oper.uponIn_value, hd]
  exact h _ (ha.put d hn v)
theorem Ops.unit {o : Oper} (hg : o.guard = none) (hd : o.dst = none)
    (hrun : ∀ ρ : Operand → Value, (∀ x v, ev e x = some v → ρ x = v) → (execOp ρ o).run P w = .ok .skip w') (h : Ops P n Qf k ops rest e w') (hdf : ∀ c, o.op ≠ .defer c := by intro c h; cases h) : Ops P n Qf k ops (o :: rest) e w := by
  intro a ha
  unfold wpListIn
  rw [if_pos (by simp [Region.wanted, hg])]
  refine ⟨fun _ _ => trivial, ?_⟩
  rw [Oper.semAt_eq _ _ _ hdf, hrun a.eval (fun x v hx => ha.eval hx), Oper.uponIn_skip, hd]
  exact h _ ha
/-! A guarded operation: its guard is decided. -/
def guardOf (ops : Array Oper) (e : Env) : Option (Nat × Bool) → Option Bool
  | none => some true
  | some (j, b) => match ((ops[j]?).bind (·.dst)) with
    | some t => match look e t with
      | some (.bool x) => some (x == b)
      | _ => none
    | none => none
theorem wanted_of {o : Oper} {g : Bool} {a : Act} (ha : Has n e a) (hg : guardOf ops e o.guard = some g) : Region.wanted o (yielded ops a.tmps) = g := by
  unfold guardOf at hg
  unfold Region.wanted
  cases hgu : o.guard with
  | none => simp [hgu] at hg; simp [hg]
  | some jb =>
    obtain ⟨j, b⟩ := jb
    simp only [hgu] at hg
    unfold yielded
    cases ht : ((ops[j]?).bind (·.dst)) with
    | none => simp [ht] at hg
    | some t =>
      simp only [ht] at hg
      cases hl : look e t with
      | none => simp [hl] at hg
      | some u =>
        cases u <;> simp [hl] at hg
        rename_i x
        have := ha.at_ t _ hl
        simp [ht, this, hg]
/-- The guard says yes: as if there were none. -/
theorem Ops.on {dst : Option Tmp} {op : Op} {gu : Nat × Bool} (hg : guardOf ops e (some gu) = some true) (h : Ops P n Qf k ops (⟨dst, op, T, pos, af, none⟩ :: rest) e w) :
    Ops P n Qf k ops (⟨dst, op, T, pos, af, some gu⟩ :: rest) e w := by
  intro a ha
  have h1 := h a ha
  unfold wpListIn at h1 ⊢
  rw [if_pos (by simp [Region.wanted])] at h1
  rw [if_pos (wanted_of (o := ⟨dst, op, T, pos, af, some gu⟩) ha hg)]
  exact h1
/-- The guard says no: it is passed over. -/
theorem Ops.off {op : Op} {gu : Nat × Bool} (hg : guardOf ops e (some gu) = some false) (hn : Nat.blt d n.size = true) (h : Ops P n Qf k ops rest ((d, undef) :: e) w) :
    Ops P n Qf k ops (⟨some d, op, T, pos, af, some gu⟩ :: rest) e w := by
  intro a ha
  unfold wpListIn
  rw [if_neg (by rw [wanted_of (o := ⟨some d, op, T, pos, af, some gu⟩) ha hg]; simp)]
  exact ⟨fun _ _ => trivial, h _ (ha.put d hn _)⟩
/-- A temporary's bool is decided. -/
theorem Ops.case (t : Nat) {x : Bool} (hx : look e t = some (.bool x)) (h1 : x = true → Ops P n Qf k ops rest ((t, .bool true) :: e) w) (h2 : x = false → Ops P n Qf k ops rest ((t, .bool false) :: e) w) :
    Ops P n Qf k ops rest e w := by
  have key : ∀ b, x = b → Ops P n Qf k ops rest ((t, .bool b) :: e) w → Ops P n Qf k ops rest e w := by
    intro b hb h a ha
    refine h a (ha.sub ?_)
    intro s v hs
    rw [look_cons] at hs
    by_cases hk : t = s
    · subst hk; simp at hs; rw [hx, hb, hs]
    · simpa [hk] using hs
  cases x
  · exact key false rfl (h2 rfl)
  · exact key true rfl (h1 rfl)
/-- A temporary's value, said otherwise. -/
theorem Ops.re (t : Nat) {v v' : Value} (hx : look e t = some v) (hv : v = v') (h : Ops P n Qf k ops rest ((t, v') :: e) w) : Ops P n Qf k ops rest e w := by
  intro a ha
  refine h a (ha.sub ?_)
  intro s u hs
  rw [look_cons] at hs
  by_cases hk : t = s
  · subst hk; simp at hs; rw [hx, hv, hs]
  · simpa [hk] using hs
theorem Run.re (t : Nat) {v v' : Value} (hx : look e t = some v) (hv : v = v') (h : Run P n Qf k ((t, v') :: e) w) : Run P n Qf k e w := by
  refine h.sub ?_
  intro s u hs
  rw [look_cons] at hs
  by_cases hk : t = s
  · subst hk; simp at hs; rw [hx, hv, hs]
  · simpa [hk] using hs

theorem Ops.move {x : Operand} {v : Value} (hx : ev e x = some v) (hn : Nat.blt d n.size = true) (h : Ops P n Qf k ops rest ((d, v) :: e) w) : Ops P n Qf k ops (⟨some d, .move x, T, pos, af, none⟩ :: rest) e w :=
  Ops.val rfl rfl hn (fun a ha => by simp [execOp, ha _ _ hx]) h
theorem Ops.assign {x : Operand} {v : Value} (hx : ev e x = some v) (hn : Nat.blt d n.size = true) (h : Ops P n Qf k ops rest ((d, v) :: e) w) : Ops P n Qf k ops (⟨some d, .assign x, T, pos, af, none⟩ :: rest) e w :=
  Ops.val rfl rfl hn (fun a ha => by simp [execOp, ha _ _ hx]) h
theorem Ops.pickT {c x y : Operand} {v : Value} (hc : ev e c = some (.bool true)) (hx : ev e x = some v) (hn : Nat.blt d n.size = true) (h : Ops P n Qf k ops rest ((d, v) :: e) w) : Ops P n Qf k ops (⟨some d, .pick c x y, T, pos, af, none⟩ :: rest) e w :=
  Ops.val rfl rfl hn (fun a ha => by simp [execOp, ha _ _ hc, ha _ _ hx, go_sem]) h
theorem Ops.pickF {c x y : Operand} {v : Value} (hc : ev e c = some (.bool false)) (hx : ev e y = some v) (hn : Nat.blt d n.size = true) (h : Ops P n Qf k ops rest ((d, v) :: e) w) : Ops P n Qf k ops (⟨some d, .pick c x y, T, pos, af, none⟩ :: rest) e w :=
  Ops.val rfl rfl hn (fun a ha => by simp [execOp, ha _ _ hc, ha _ _ hx, go_sem]) h
section bin
variable {xt yt : TypeId} {x y : Operand} {q : IntKind} {a b : Int}
theorem Ops.add (hx : ev e x = some (.int q a)) (hy : ev e y = some (.int q b)) (hn : Nat.blt d n.size = true) (h : Ops P n Qf k ops rest ((d, .int q (q.wrap (a + b))) :: e) w) : Ops P n Qf k ops (⟨some d, .binOp .add xt x y yt, T, pos, af, none⟩ :: rest) e w :=
  Ops.val rfl rfl hn (fun c hc => by simp [execOp, hc _ _ hx, hc _ _ hy, go_sem, binOp, eqGuard, Op.intArith]) h
theorem Ops.sub (hx : ev e x = some (.int q a)) (hy : ev e y = some (.int q b)) (hn : Nat.blt d n.size = true) (h : Ops P n Qf k ops rest ((d, .int q (q.wrap (a - b))) :: e) w) : Ops P n Qf k ops (⟨some d, .binOp .sub xt x y yt, T, pos, af, none⟩ :: rest) e w :=
  Ops.val rfl rfl hn (fun c hc => by simp [execOp, hc _ _ hx, hc _ _ hy, go_sem, binOp, eqGuard, Op.intArith]) h
theorem Ops.mul (hx : ev e x = some (.int q a)) (hy : ev e y = some (.int q b)) (hn : Nat.blt d n.size = true) (h : Ops P n Qf k ops rest ((d, .int q (q.wrap (a * b))) :: e) w) : Ops P n Qf k ops (⟨some d, .binOp .mul xt x y yt, T, pos, af, none⟩ :: rest) e w :=
  Ops.val rfl rfl hn (fun c hc => by simp [execOp, hc _ _ hx, hc _ _ hy, go_sem, binOp, eqGuard, Op.intArith]) h
theorem wrap_i64_in {z : Int} (h1 : -9223372036854775808 ≤ z) (h2 : z ≤ 9223372036854775807) : IntKind.i64.wrap z = z := by
  rw [IntKind.wrap_i64]; omega
theorem Ops.addI (hx : ev e x = some (.int .i64 a)) (hy : ev e y = some (.int .i64 b)) (hn : Nat.blt d n.size = true) (h1 : -9223372036854775808 ≤ a + b) (h2 : a + b ≤ 9223372036854775807) (h : Ops P n Qf k ops rest ((d, .int .i64 (a + b)) :: e) w) : Ops P n Qf k ops (⟨some d, .binOp .add xt x y yt, T, pos, af, none⟩ :: rest) e w :=
  Ops.add hx hy hn (by rw [wrap_i64_in h1 h2]; exact h)
theorem Ops.subI (hx : ev e x = some (.int .i64 a)) (hy : ev e y = some (.int .i64 b)) (hn : Nat.blt d n.size = true) (h1 : -9223372036854775808 ≤ a - b) (h2 : a - b ≤ 9223372036854775807) (h : Ops P n Qf k ops rest ((d, .int .i64 (a - b)) :: e) w) : Ops P n Qf k ops (⟨some d, .binOp .sub xt x y yt, T, pos, af, none⟩ :: rest) e w :=
  Ops.sub hx hy hn (by rw [wrap_i64_in h1 h2]; exact h)
theorem Ops.mulI (hx : ev e x = some (.int .i64 a)) (hy : ev e y = some (.int .i64 b)) (hn : Nat.blt d n.size = true) (h1 : -9223372036854775808 ≤ a * b) (h2 : a * b ≤ 9223372036854775807) (h : Ops P n Qf k ops rest ((d, .int .i64 (a * b)) :: e) w) : Ops P n Qf k ops (⟨some d, .binOp .mul xt x y yt, T, pos, af, none⟩ :: rest) e w :=
  Ops.mul hx hy hn (by rw [wrap_i64_in h1 h2]; exact h)
theorem Ops.quo (hx : ev e x = some (.int q a)) (hy : ev e y = some (.int q b)) (hn : Nat.blt d n.size = true) (hb : b ≠ 0) (h : Ops P n Qf k ops rest ((d, .int q (q.wrap (a.tdiv b))) :: e) w) : Ops P n Qf k ops (⟨some d, .binOp .quo xt x y yt, T, pos, af, none⟩ :: rest) e w :=
  Ops.val rfl rfl hn (fun c hc => by simp [execOp, hc _ _ hx, hc _ _ hy, go_sem, binOp, eqGuard, Op.intDiv, hb]) h
theorem Ops.rem (hx : ev e x = some (.int q a)) (hy : ev e y = some (.int q b)) (hn : Nat.blt d n.size = true) (hb : b ≠ 0) (h : Ops P n Qf k ops rest ((d, .int q (a.tmod b)) :: e) w) : Ops P n Qf k ops (⟨some d, .binOp .rem xt x y yt, T, pos, af, none⟩ :: rest) e w :=
  Ops.val rfl rfl hn (fun c hc => by simp [execOp, hc _ _ hx, hc _ _ hy, go_sem, binOp, eqGuard, Op.intDiv, hb]) h
theorem Ops.remI (hx : ev e x = some (.int q a)) (hy : ev e y = some (.int q b)) (hn : Nat.blt d n.size = true) (hb : b ≠ 0) (ha : 0 ≤ a) (h : Ops P n Qf k ops rest ((d, .int q (a % b)) :: e) w) : Ops P n Qf k ops (⟨some d, .binOp .rem xt x y yt, T, pos, af, none⟩ :: rest) e w :=
  Ops.rem hx hy hn hb (by rw [Int.tmod_eq_emod_of_nonneg ha]; exact h)
theorem Ops.quoI (hx : ev e x = some (.int .i64 a)) (hy : ev e y = some (.int .i64 b)) (hn : Nat.blt d n.size = true) (hb : 0 < b) (ha : 0 ≤ a) (ha' : a ≤ 9223372036854775807) (h : Ops P n Qf k ops rest ((d, .int .i64 (a / b)) :: e) w) : Ops P n Qf k ops (⟨some d, .binOp .quo xt x y yt, T, pos, af, none⟩ :: rest) e w :=
  Ops.quo hx hy hn (by omega) (by
    rw [Int.tdiv_eq_ediv_of_nonneg ha, wrap_i64_in]
    · exact h
    · have := Int.ediv_nonneg ha (by omega : 0 ≤ b); omega
    · have := Int.ediv_le_self b ha; omega)
theorem wrap_u8_in {z : Int} (h1 : 0 ≤ z) (h2 : z ≤ 255) : IntKind.u8.wrap z = z := by simp [IntKind.wrap, IntKind.bits, IntKind.signed]; omega
theorem wrap_u16_in {z : Int} (h1 : 0 ≤ z) (h2 : z ≤ 65535) : IntKind.u16.wrap z = z := by simp [IntKind.wrap, IntKind.bits, IntKind.signed]; omega
theorem wrap_u32_in {z : Int} (h1 : 0 ≤ z) (h2 : z ≤ 4294967295) : IntKind.u32.wrap z = z := by simp [IntKind.wrap, IntKind.bits, IntKind.signed]; omega
theorem Ops.addQ (hx : ev e x = some (.int q a)) (hy : ev e y = some (.int q b)) (hn : Nat.blt d n.size = true) (hw : q.wrap (a + b) = a + b) (h : Ops P n Qf k ops rest ((d, .int q (a + b)) :: e) w) : Ops P n Qf k ops (⟨some d, .binOp .add xt x y yt, T, pos, af, none⟩ :: rest) e w :=
  Ops.add hx hy hn (by rw [hw]; exact h)
theorem Ops.subQ (hx : ev e x = some (.int q a)) (hy : ev e y = some (.int q b)) (hn : Nat.blt d n.size = true) (hw : q.wrap (a - b) = a - b) (h : Ops P n Qf k ops rest ((d, .int q (a - b)) :: e) w) : Ops P n Qf k ops (⟨some d, .binOp .sub xt x y yt, T, pos, af, none⟩ :: rest) e w :=
  Ops.sub hx hy hn (by rw [hw]; exact h)
theorem Ops.quoQ (hx : ev e x = some (.int q a)) (hy : ev e y = some (.int q b)) (hn : Nat.blt d n.size = true) (hb : 0 < b) (ha : 0 ≤ a) (hw : q.wrap (a / b) = a / b) (h : Ops P n Qf k ops rest ((d, .int q (a / b)) :: e) w) : Ops P n Qf k ops (⟨some d, .binOp .quo xt x y yt, T, pos, af, none⟩ :: rest) e w :=
  Ops.quo hx hy hn (by omega) (by rw [Int.tdiv_eq_ediv_of_nonneg ha, hw]; exact h)
theorem Ops.eql (hx : ev e x = some (.int q a)) (hy : ev e y = some (.int q b)) (hn : Nat.blt d n.size = true) (h : Ops P n Qf k ops rest ((d, .bool (a == b)) :: e) w) : Ops P n Qf k ops (⟨some d, .binOp .eql xt x y yt, T, pos, af, none⟩ :: rest) e w :=
  Ops.val rfl rfl hn (fun c hc => by simp [execOp, hc _ _ hx, hc _ _ hy, go_sem, binOp, eqGuard, Op.intCmp]) h
theorem Ops.neq (hx : ev e x = some (.int q a)) (hy : ev e y = some (.int q b)) (hn : Nat.blt d n.size = true) (h : Ops P n Qf k ops rest ((d, .bool (a != b)) :: e) w) : Ops P n Qf k ops (⟨some d, .binOp .neq xt x y yt, T, pos, af, none⟩ :: rest) e w :=
  Ops.val rfl rfl hn (fun c hc => by simp [execOp, hc _ _ hx, hc _ _ hy, go_sem, binOp, eqGuard, Op.intCmp]) h
theorem Ops.lss (hx : ev e x = some (.int q a)) (hy : ev e y = some (.int q b)) (hn : Nat.blt d n.size = true) (h : Ops P n Qf k ops rest ((d, .bool (decide (a < b))) :: e) w) : Ops P n Qf k ops (⟨some d, .binOp .lss xt x y yt, T, pos, af, none⟩ :: rest) e w :=
  Ops.val rfl rfl hn (fun c hc => by simp [execOp, hc _ _ hx, hc _ _ hy, go_sem, binOp, eqGuard, Op.intCmp]) h
theorem Ops.leq (hx : ev e x = some (.int q a)) (hy : ev e y = some (.int q b)) (hn : Nat.blt d n.size = true) (h : Ops P n Qf k ops rest ((d, .bool (decide (a ≤ b))) :: e) w) : Ops P n Qf k ops (⟨some d, .binOp .leq xt x y yt, T, pos, af, none⟩ :: rest) e w :=
  Ops.val rfl rfl hn (fun c hc => by simp [execOp, hc _ _ hx, hc _ _ hy, go_sem, binOp, eqGuard, Op.intCmp]) h
theorem Ops.gtr (hx : ev e x = some (.int q a)) (hy : ev e y = some (.int q b)) (hn : Nat.blt d n.size = true) (h : Ops P n Qf k ops rest ((d, .bool (decide (b < a))) :: e) w) : Ops P n Qf k ops (⟨some d, .binOp .gtr xt x y yt, T, pos, af, none⟩ :: rest) e w :=
  Ops.val rfl rfl hn (fun c hc => by simp [execOp, hc _ _ hx, hc _ _ hy, go_sem, binOp, eqGuard, Op.intCmp]) h
theorem Ops.geq (hx : ev e x = some (.int q a)) (hy : ev e y = some (.int q b)) (hn : Nat.blt d n.size = true) (h : Ops P n Qf k ops rest ((d, .bool (decide (b ≤ a))) :: e) w) : Ops P n Qf k ops (⟨some d, .binOp .geq xt x y yt, T, pos, af, none⟩ :: rest) e w :=
  Ops.val rfl rfl hn (fun c hc => by simp [execOp, hc _ _ hx, hc _ _ hy, go_sem, binOp, eqGuard, Op.intCmp]) h
variable {s t : ByteArray}
theorem Ops.eqlS (hx : ev e x = some (.string s)) (hy : ev e y = some (.string t)) (hn : Nat.blt d n.size = true) (h : Ops P n Qf k ops rest ((d, .bool (decide (s = t))) :: e) w) : Ops P n Qf k ops (⟨some d, .binOp .eql xt x y yt, T, pos, af, none⟩ :: rest) e w := by
  refine Ops.val rfl rfl hn (fun c hc => ?_) h
  have h2 : (s.toList == t.toList) = decide (s = t) := by
    rw [ByteArray.toList_eq, ByteArray.toList_eq, Bool.eq_iff_iff]
    simp [ByteArray.ext_iff, Array.toList_inj]
  simp only [execOp, hc _ _ hx, hc _ _ hy, binOp, eqGuard, Op.stringOp]
  simp [h2]
theorem Ops.neqS (hx : ev e x = some (.string s)) (hy : ev e y = some (.string t)) (hn : Nat.blt d n.size = true) (h : Ops P n Qf k ops rest ((d, .bool (!decide (s = t))) :: e) w) : Ops P n Qf k ops (⟨some d, .binOp .neq xt x y yt, T, pos, af, none⟩ :: rest) e w := by
  refine Ops.val rfl rfl hn (fun c hc => ?_) h
  have h2 : (s.toList == t.toList) = decide (s = t) := by
    rw [ByteArray.toList_eq, ByteArray.toList_eq, Bool.eq_iff_iff]
    simp [ByteArray.ext_iff, Array.toList_inj]
  simp only [execOp, hc _ _ hx, hc _ _ hy, binOp, eqGuard, Op.stringOp]
  simp [h2]
theorem Ops.addS (hsz : s.size + t.size ≤ 9223372036854775807) (hx : ev e x = some (.string s)) (hy : ev e y = some (.string t)) (hn : Nat.blt d n.size = true) (h : Ops P n Qf k ops rest ((d, .string (s ++ t)) :: e) w) : Ops P n Qf k ops (⟨some d, .binOp .add xt x y yt, T, pos, af, none⟩ :: rest) e w := by
  refine Ops.val rfl rfl hn (fun c hc => ?_) h
  have : (s.size : Int) + t.size ≤ 9223372036854775807 := by omega
  simp [execOp, hc _ _ hx, hc _ _ hy, go_sem, binOp, eqGuard, Op.stringOp, this]
theorem Ops.lssS (hx : ev e x = some (.string s)) (hy : ev e y = some (.string t)) (hn : Nat.blt d n.size = true) (h : Ops P n Qf k ops rest ((d, .bool (Op.bytesLess s.toList t.toList)) :: e) w) : Ops P n Qf k ops (⟨some d, .binOp .lss xt x y yt, T, pos, af, none⟩ :: rest) e w := by
  refine Ops.val rfl rfl hn (fun c hc => ?_) h
  simp only [execOp, hc _ _ hx, hc _ _ hy, binOp, eqGuard, Op.stringOp]
  simp
theorem Ops.geqS (hx : ev e x = some (.string s)) (hy : ev e y = some (.string t)) (hn : Nat.blt d n.size = true) (h : Ops P n Qf k ops rest ((d, .bool (!Op.bytesLess s.toList t.toList)) :: e) w) : Ops P n Qf k ops (⟨some d, .binOp .geq xt x y yt, T, pos, af, none⟩ :: rest) e w := by
  refine Ops.val rfl rfl hn (fun c hc => ?_) h
  simp only [execOp, hc _ _ hx, hc _ _ hy, binOp, eqGuard, Op.stringOp]
  simp
theorem Ops.leqS (hx : ev e x = some (.string s)) (hy : ev e y = some (.string t)) (hn : Nat.blt d n.size = true) (h : Ops P n Qf k ops rest ((d, .bool (Op.bytesLess s.toList t.toList || decide (s = t))) :: e) w) : Ops P n Qf k ops (⟨some d, .binOp .leq xt x y yt, T, pos, af, none⟩ :: rest) e w := by
  refine Ops.val rfl rfl hn (fun c hc => ?_) h
  have h2 : (s.toList == t.toList) = decide (s = t) := by
    rw [ByteArray.toList_eq, ByteArray.toList_eq, Bool.eq_iff_iff]
    simp [ByteArray.ext_iff, Array.toList_inj]
  simp only [execOp, hc _ _ hx, hc _ _ hy, binOp, eqGuard, Op.stringOp]
  simp [h2]
variable {p r : Bool}
theorem run_eqBool (dd : Nat) {t : TypeId} (ht : P.underlying t = some .bool) : (Op.equalIn (dd + 1) t (.bool p) (.bool r)).run P w = .ok (p == r) w := by
  simp [Op.equalIn, run_underlying ht]
theorem Ops.eqlB (hx : ev e x = some (.bool p)) (hy : ev e y = some (.bool r)) (hn : Nat.blt d n.size = true) (ht : P.underlying xt = some .bool) (h : Ops P n Qf k ops rest ((d, .bool (p == r)) :: e) w) : Ops P n Qf k ops (⟨some d, .binOp .eql xt x y yt, T, pos, af, none⟩ :: rest) e w := by
  refine Ops.val rfl rfl hn (fun c hc => ?_) h
  have h1 : (Op.equal xt (.bool p) (.bool r)).run P w = .ok (p == r) w := run_eqBool 9999 ht
  simp only [execOp, hc _ _ hx, hc _ _ hy, binOp, eqGuard]
  simp [h1]
theorem Ops.neqB (hx : ev e x = some (.bool p)) (hy : ev e y = some (.bool r)) (hn : Nat.blt d n.size = true) (ht : P.underlying xt = some .bool) (h : Ops P n Qf k ops rest ((d, .bool (p != r)) :: e) w) : Ops P n Qf k ops (⟨some d, .binOp .neq xt x y yt, T, pos, af, none⟩ :: rest) e w := by
  refine Ops.val rfl rfl hn (fun c hc => ?_) h
  have h1 : (Op.equal xt (.bool p) (.bool r)).run P w = .ok (p == r) w := run_eqBool 9999 ht
  simp only [execOp, hc _ _ hx, hc _ _ hy, binOp, eqGuard]
  simp [h1]
  cases p <;> cases r <;> rfl
end bin
theorem Ops.not {xt : TypeId} {x : Operand} {p : Bool} (hx : ev e x = some (.bool p)) (hn : Nat.blt d n.size = true) (h : Ops P n Qf k ops rest ((d, .bool (!p)) :: e) w) : Ops P n Qf k ops (⟨some d, .unOp .not xt x, T, pos, af, none⟩ :: rest) e w :=
  Ops.val rfl rfl hn (fun c hc => by simp [execOp, hc _ _ hx, go_sem, Op.unary]) h
theorem Ops.neg {xt : TypeId} {x : Operand} {q : IntKind} {a : Int} (hx : ev e x = some (.int q a)) (hn : Nat.blt d n.size = true) (h : Ops P n Qf k ops rest ((d, .int q (q.wrap (0 - a))) :: e) w) : Ops P n Qf k ops (⟨some d, .unOp .neg xt x, T, pos, af, none⟩ :: rest) e w :=
  Ops.val rfl rfl hn (fun c hc => by simp [execOp, hc _ _ hx, go_sem, Op.unary, Op.intArith]) h
theorem Ops.conv {src dst : TypeId} {sd : TypeDesc} {x : Operand} {q q' : IntKind} {a : Int} (hx : ev e x = some (.int q a)) (hs : P.underlying src = some sd) (ht : P.underlying dst = some (.int q')) (hn : Nat.blt d n.size = true) (h : Ops P n Qf k ops rest ((d, .int q' (q'.wrap a)) :: e) w) : Ops P n Qf k ops (⟨some d, .convert src dst x, T, pos, af, none⟩ :: rest) e w :=
  Ops.val rfl rfl hn (fun c hc => by simp [execOp, hc _ _ hx, go_sem, convert, run_underlying hs, run_underlying ht, Conv.intToInt]) h
theorem Ops.convQ {src dst : TypeId} {sd : TypeDesc} {x : Operand} {q q' : IntKind} {a : Int} (hx : ev e x = some (.int q a)) (hs : P.underlying src = some sd) (ht : P.underlying dst = some (.int q')) (hw : q'.wrap a = a) (hn : Nat.blt d n.size = true) (h : Ops P n Qf k ops rest ((d, .int q' a) :: e) w) : Ops P n Qf k ops (⟨some d, .convert src dst x, T, pos, af, none⟩ :: rest) e w :=
  Ops.conv hx hs ht hn (by rw [hw]; exact h)
theorem run_sizeOf {t : TypeId} {z : Nat} (h : (P.info? t).map (·.size) = some z) (w : World) : (sizeOf t).run P w = .ok z w := by
  obtain ⟨ti, hi, hsz⟩ := Option.map_eq_some_iff.1 h
  simp [sizeOf, typeInfo, hi, hsz]
theorem Ops.extract {x : Operand} {vs : Array Value} {i : Nat} {v : Value} (hx : ev e x = some (.tuple vs)) (hi : vs[i]? = some v) (hn : Nat.blt d n.size = true) (h : Ops P n Qf k ops rest ((d, v) :: e) w) : Ops P n Qf k ops (⟨some d, .extract x i, T, pos, af, none⟩ :: rest) e w :=
  Ops.val rfl rfl hn (fun c hc => by simp [execOp, hc _ _ hx, go_sem, Instr.extract, hi]) h
theorem Ops.nilCheck {x : Operand} {ad : Addr} (hx : ev e x = some (.pointer (some ad))) (hn : Nat.blt d n.size = true) (h : Ops P n Qf k ops rest ((d, .pointer (some ad)) :: e) w) : Ops P n Qf k ops (⟨some d, .nilCheck x, T, pos, af, none⟩ :: rest) e w :=
  Ops.val rfl rfl hn (fun c hc => by simp [execOp, hc _ _ hx, go_sem]) h
theorem Ops.field {xt : TypeId} {x : Operand} {i : Nat} {fs : Array Field} {f : Field} {cs : Array Value} {v : Value} (hx : ev e x = some (.agg cs)) (ht : P.underlying xt = some (.struct fs)) (hf : fs[i]? = some f) (hr : ∀ w, (part f.type cs f.offset).run P w = .ok v w) (hn : Nat.blt d n.size = true) (h : Ops P n Qf k ops rest ((d, v) :: e) w) : Ops P n Qf k ops (⟨some d, .field xt x i, T, pos, af, none⟩ :: rest) e w :=
  Ops.val rfl rfl hn (fun c hc => by simp only [execOp, hc _ _ hx, Instr.field]; simp [run_underlying ht, hf, asAgg, hr]) h
theorem addr_add (g o j : Nat) : (⟨g, o, none⟩ : Addr).add j = ⟨g, o + j, none⟩ := by
  unfold Addr.add
  split <;> simp_all
theorem Ops.fieldAddr {xt : TypeId} {x : Operand} {i : Nat} {fs : Array Field} {f : Field} {g o : Nat} {z : Nat} (hx : ev e x = some (.pointer (some ⟨g, o, none⟩))) (ht : P.underlying xt = some (.struct fs)) (hf : fs[i]? = some f) (hz : (P.info? f.type).map (·.size) = some (z + 1)) (hn : Nat.blt d n.size = true) (h : Ops P n Qf k ops rest ((d, .pointer (some ⟨g, o + f.offset, none⟩)) :: e) w) : Ops P n Qf k ops (⟨some d, .fieldAddr xt x i, T, pos, af, none⟩ :: rest) e w := by
  refine Ops.val rfl rfl hn (fun c hc => ?_) h
  simp only [execOp, hc _ _ hx, Instr.fieldAt]
  simp [run_underlying ht, hf, fieldPlace, run_sizeOf hz, Instr.sureAddr, addr_add]
theorem Ops.indexAddr {xt et : TypeId} {x y : Operand} {ad : Option Addr} {l c : Nat} {q : IntKind} {i : Int} {g o j : Nat} {z : Nat} (hx : ev e x = some (.slice ad l c)) (hy : ev e y = some (.int q i)) (ht : P.underlying xt = some (.slice et)) (hz : (P.info? et).map (·.size) = some z) (hb : ad = some ⟨g, o, none⟩) (h0 : 0 ≤ i) (h1 : i < l) (hj : i.toNat * z = j) (hn : Nat.blt d n.size = true) (h : Ops P n Qf k ops rest ((d, .pointer (some ⟨g, o + j, none⟩)) :: e) w) : Ops P n Qf k ops (⟨some d, .indexAddr xt x y, T, pos, af, none⟩ :: rest) e w := by
  refine Ops.val rfl rfl hn (fun c hc => ?_) h
  subst hb
  subst hj
  simp only [execOp, hc _ _ hx, hc _ _ hy, Instr.indexAt]
  simp [run_underlying ht, asIntOf, run_sizeOf hz, h0, h1, addr_add]
theorem Ops.len {args : Array Operand} {tys : Array TypeId} {x : Operand} {ad : Option Addr} {l c : Nat} {t et : TypeId} (ha : args = #[x]) (hx : ev e x = some (.slice ad l c)) (hty : tys = #[t]) (ht : P.underlying t = some (.slice et)) (hn : Nat.blt d n.size = true) (h : Ops P n Qf k ops rest ((d, .int .i64 l) :: e) w) : Ops P n Qf k ops (⟨some d, .call ⟨.builtin .len, args, tys⟩, T, pos, af, none⟩ :: rest) e w := by
  refine Ops.val rfl rfl hn (fun c hc => ?_) h
  subst ha hty
  simp [execOp, hc _ _ hx, resolve, invoke, builtin, Builtin.len_, run_underlying ht, goInt]
theorem Ops.lenS {args : Array Operand} {tys : Array TypeId} {x : Operand} {s : ByteArray} {t : TypeId} (ha : args = #[x]) (hx : ev e x = some (.string s)) (hty : tys = #[t]) (ht : P.underlying t = some .string) (hn : Nat.blt d n.size = true) (h : Ops P n Qf k ops rest ((d, .int .i64 s.size) :: e) w) : Ops P n Qf k ops (⟨some d, .call ⟨.builtin .len, args, tys⟩, T, pos, af, none⟩ :: rest) e w := by
  refine Ops.val rfl rfl hn (fun c hc => ?_) h
  subst ha hty
  simp [execOp, hc _ _ hx, resolve, invoke, builtin, Builtin.len_, run_underlying ht, goInt]
theorem Ops.func {fn : Fn} {first captured : Array Operand} {fv cv : Array Value} (h1 : ∀ ρ : Operand → Value, (∀ x v, ev e x = some v → ρ x = v) → first.map ρ = fv) (h2 : ∀ ρ : Operand → Value, (∀ x v, ev e x = some v → ρ x = v) → captured.map ρ = cv) (hn : Nat.blt d n.size = true) (h : Ops P n Qf k ops rest ((d, .func fn fv cv) :: e) w) : Ops P n Qf k ops (⟨some d, .makeFunc fn first captured, T, pos, af, none⟩ :: rest) e w :=
  Ops.val rfl rfl hn (fun c hc => by simp [execOp, go_sem, Instr.makeFunc, h1 c hc, h2 c hc]) h
/-- x[lo:hi] of a slice. -/
theorem Ops.cut {xt et : TypeId} {x : Operand} {lo hi : Option Operand} {ad : Option Addr} {l c z : Nat} {i j : Int} (hx : ev e x = some (.slice ad l c)) (ht : P.underlying xt = some (.slice et)) (hz : (P.info? et).map (·.size) = some z)
    (hlo : match lo with | none => i = 0 | some o => ev e o = some (.int .i64 i)) (hhi : match hi with | none => j = l | some o => ev e o = some (.int .i64 j)) (h0 : 0 ≤ i) (h1 : i ≤ j) (h2 : j ≤ c) (hn : Nat.blt d n.size = true)
    (h : Ops P n Qf k ops rest ((d, .slice (if c = i.toNat then ad else ad.map (·.add (i.toNat * z))) (j.toNat - i.toNat) (c - i.toNat)) :: e) w) : Ops P n Qf k ops (⟨some d, .slice xt x lo hi none, T, pos, af, none⟩ :: rest) e w := by
  refine Ops.val rfl rfl hn (fun cc hc => ?_) h
  have hjj : (j.toNat : Int) = j := by omega
  have hij : i ≤ (j.toNat : Int) := by omega
  have hmx : ¬ max j 0 < i := by omega
  cases lo <;> cases hi <;> simp only at hlo hhi
  · subst hlo hhi
    simp [execOp, hc _ _ hx, Instr.sliceAt, Instr.slice, run_underlying ht, Instr.sliceBounds, run_sizeOf hz]
  · subst hlo
    simp [execOp, hc _ _ hx, hc _ _ hhi, Instr.sliceAt, Instr.slice, run_underlying ht, Instr.sliceBounds, Instr.sliceBound, asIntOf, run_sizeOf hz, h1, h2]
  · subst hhi
    simp [execOp, hc _ _ hx, hc _ _ hlo, Instr.sliceAt, Instr.slice, run_underlying ht, Instr.sliceBounds, Instr.sliceBound, asIntOf, run_sizeOf hz, h0, h1]
  · simp [execOp, hc _ _ hx, hc _ _ hhi, hc _ _ hlo, Instr.sliceAt, Instr.slice, run_underlying ht, Instr.sliceBounds, Instr.sliceBound, asIntOf, run_sizeOf hz, h0, h1, h2, (Int.le_trans h0 h1), hij]
    intro hh; exact absurd hh hmx
/-- x[lo:hi:max] of a slice. -/
theorem Ops.cut3 {xt et : TypeId} {x a b : Operand} {lo : Option Operand} {ad : Option Addr} {l c z : Nat} {i j q : Int} (hx : ev e x = some (.slice ad l c)) (ht : P.underlying xt = some (.slice et)) (hz : (P.info? et).map (·.size) = some z)
    (hlo : match lo with | none => i = 0 | some o => ev e o = some (.int .i64 i)) (hhi : ev e a = some (.int .i64 j)) (hmx : ev e b = some (.int .i64 q)) (h0 : 0 ≤ i) (h1 : i ≤ j) (h2 : j ≤ q) (h3 : q ≤ c) (hn : Nat.blt d n.size = true)
    (h : Ops P n Qf k ops rest ((d, .slice (if q.toNat = i.toNat then ad else ad.map (·.add (i.toNat * z))) (j.toNat - i.toNat) (q.toNat - i.toNat)) :: e) w) : Ops P n Qf k ops (⟨some d, .slice xt x lo (some a) (some b), T, pos, af, none⟩ :: rest) e w := by
  refine Ops.val rfl rfl hn (fun cc hc => ?_) h
  have hq : (q.toNat : Int) = q := by omega
  have hj : (j.toNat : Int) = j := by omega
  have a1 : 0 ≤ q := by omega
  have a2 : 0 ≤ j := by omega
  have a3 : ¬ max q 0 < j := by omega
  have a4 : ¬ max j 0 < i := by omega
  have a5 : j ≤ max q 0 := by omega
  have a6 : i ≤ max j 0 := by omega
  cases lo <;> simp only at hlo
  · subst hlo
    simp [execOp, hc _ _ hx, hc _ _ hhi, hc _ _ hmx, Instr.sliceAt, Instr.slice, run_underlying ht, Instr.sliceBounds, Instr.sliceBound, asIntOf, run_sizeOf hz, a1, a2, h3, h2, a5]
  · simp [execOp, hc _ _ hx, hc _ _ hhi, hc _ _ hmx, hc _ _ hlo, Instr.sliceAt, Instr.slice, run_underlying ht, Instr.sliceBounds, Instr.sliceBound, asIntOf, run_sizeOf hz, a1, a2, h3, h2, a5, a6, h0]
end Go.Proofs.YtiekoeapmhhjbaaGreatDoor.Sx
