/- A small logic of walks, part E: what an operation yields, whatever the world; regions that draw their order. Made by mkex.py out of part B. -/
import Derived.Test.YtiekoeapmhhjbaaGreatDoorSxC
import Derived.OrdersHeld
namespace Go.Proofs.YtiekoeapmhhjbaaGreatDoor.Sx
open Go Go.RowKit
set_option linter.unusedVariables false
set_option linter.unusedSimpArgs false
/-- The operation yields this value in whatever world, and leaves it. -/
def Ex (P : Program) (e : Env) (o : Oper) (v : Value) : Prop := ∀ ρ : Operand → Value, (∀ x v, ev e x = some v → ρ x = v) → ∀ w, (execOp ρ o).run P w = .ok (.value v) w
/-- .. in whatever world that meets S. -/
def ExS (P : Program) (S : World → Prop) (e : Env) (o : Oper) (v : Value) : Prop := ∀ ρ : Operand → Value, (∀ x v, ev e x = some v → ρ x = v) → ∀ w, S w → (execOp ρ o).run P w = .ok (.value v) w
theorem Ex.s {P : Program} {S : World → Prop} {e : Env} {o : Oper} {v : Value} (h : Ex P e o v) : ExS P S e o v := fun ρ hρ w _ => h ρ hρ w
variable {P : Program} {n : Fm} {Qf : Exit → Act → World → Prop} {k : List It} {e : Env} {w w' : World} {ops : Array Oper} {rest : List Oper} {T : TypeId} {pos : String} {af : Array Edge} {d : Nat}
theorem Ops.ex {o : Oper} {v : Value} (h : Ex P e o v) (hg : o.guard = none) (hd : o.dst = some d) (hn : Nat.blt d n.size = true) (hk : Ops P n Qf k ops rest ((d, v) :: e) w) (hdf : ∀ c, o.op ≠ .defer c := by intro c h; cases h) : Ops P n Qf k ops (o :: rest) e w :=
  Ops.val hg hd hn (fun ρ hρ => h ρ hρ w) hk hdf
theorem Ex.move {x : Operand} {v : Value} (hx : ev e x = some v) : Ex P e ⟨some d, .move x, T, pos, af, none⟩ (v) := fun a ha w => by simp [execOp, ha _ _ hx]
theorem Ex.assign {x : Operand} {v : Value} (hx : ev e x = some v) : Ex P e ⟨some d, .assign x, T, pos, af, none⟩ (v) := fun a ha w => by simp [execOp, ha _ _ hx]
theorem Ex.pickT {c x y : Operand} {v : Value} (hc : ev e c = some (.bool true)) (hx : ev e x = some v) : Ex P e ⟨some d, .pick c x y, T, pos, af, none⟩ (v) := fun a ha w => by simp [execOp, ha _ _ hc, ha _ _ hx, go_sem]
theorem Ex.pickF {c x y : Operand} {v : Value} (hc : ev e c = some (.bool false)) (hx : ev e y = some v) : Ex P e ⟨some d, .pick c x y, T, pos, af, none⟩ (v) := fun a ha w => by simp [execOp, ha _ _ hc, ha _ _ hx, go_sem]
section bin
variable {xt yt : TypeId} {x y : Operand} {q : IntKind} {a b : Int}
theorem Ex.add (hx : ev e x = some (.int q a)) (hy : ev e y = some (.int q b)) : Ex P e ⟨some d, .binOp .add xt x y yt, T, pos, af, none⟩ (.int q (q.wrap (a + b))) := fun c hc w => by simp [execOp, hc _ _ hx, hc _ _ hy, go_sem, binOp, eqGuard, Op.intArith]
theorem Ex.sub (hx : ev e x = some (.int q a)) (hy : ev e y = some (.int q b)) : Ex P e ⟨some d, .binOp .sub xt x y yt, T, pos, af, none⟩ (.int q (q.wrap (a - b))) := fun c hc w => by simp [execOp, hc _ _ hx, hc _ _ hy, go_sem, binOp, eqGuard, Op.intArith]
theorem Ex.mul (hx : ev e x = some (.int q a)) (hy : ev e y = some (.int q b)) : Ex P e ⟨some d, .binOp .mul xt x y yt, T, pos, af, none⟩ (.int q (q.wrap (a * b))) := fun c hc w => by simp [execOp, hc _ _ hx, hc _ _ hy, go_sem, binOp, eqGuard, Op.intArith]
theorem Ex.addI (hx : ev e x = some (.int .i64 a)) (hy : ev e y = some (.int .i64 b)) (h1 : -9223372036854775808 ≤ a + b) (h2 : a + b ≤ 9223372036854775807) : Ex P e ⟨some d, .binOp .add xt x y yt, T, pos, af, none⟩ (.int .i64 (a + b)) := by
  have := Ex.add (P := P) (T := T) (pos := pos) (af := af) (d := d) (xt := xt) (yt := yt) hx hy
  rw [wrap_i64_in h1 h2] at this
  exact this
theorem Ex.subI (hx : ev e x = some (.int .i64 a)) (hy : ev e y = some (.int .i64 b)) (h1 : -9223372036854775808 ≤ a - b) (h2 : a - b ≤ 9223372036854775807) : Ex P e ⟨some d, .binOp .sub xt x y yt, T, pos, af, none⟩ (.int .i64 (a - b)) := by
  have := Ex.sub (P := P) (T := T) (pos := pos) (af := af) (d := d) (xt := xt) (yt := yt) hx hy
  rw [wrap_i64_in h1 h2] at this
  exact this
theorem Ex.mulI (hx : ev e x = some (.int .i64 a)) (hy : ev e y = some (.int .i64 b)) (h1 : -9223372036854775808 ≤ a * b) (h2 : a * b ≤ 9223372036854775807) : Ex P e ⟨some d, .binOp .mul xt x y yt, T, pos, af, none⟩ (.int .i64 (a * b)) := by
  have := Ex.mul (P := P) (T := T) (pos := pos) (af := af) (d := d) (xt := xt) (yt := yt) hx hy
  rw [wrap_i64_in h1 h2] at this
  exact this
theorem Ex.quo (hx : ev e x = some (.int q a)) (hy : ev e y = some (.int q b)) (hb : b ≠ 0) : Ex P e ⟨some d, .binOp .quo xt x y yt, T, pos, af, none⟩ (.int q (q.wrap (a.tdiv b))) := fun c hc w => by simp [execOp, hc _ _ hx, hc _ _ hy, go_sem, binOp, eqGuard, Op.intDiv, hb]
theorem Ex.rem (hx : ev e x = some (.int q a)) (hy : ev e y = some (.int q b)) (hb : b ≠ 0) : Ex P e ⟨some d, .binOp .rem xt x y yt, T, pos, af, none⟩ (.int q (a.tmod b)) := fun c hc w => by simp [execOp, hc _ _ hx, hc _ _ hy, go_sem, binOp, eqGuard, Op.intDiv, hb]
theorem Ex.remI (hx : ev e x = some (.int q a)) (hy : ev e y = some (.int q b)) (hb : b ≠ 0) (ha : 0 ≤ a) : Ex P e ⟨some d, .binOp .rem xt x y yt, T, pos, af, none⟩ (.int q (a % b)) := by
  have := Ex.rem (P := P) (T := T) (pos := pos) (af := af) (d := d) (xt := xt) (yt := yt) hx hy hb
  rw [Int.tmod_eq_emod_of_nonneg ha] at this
  exact this
theorem Ex.quoI (hx : ev e x = some (.int .i64 a)) (hy : ev e y = some (.int .i64 b)) (hb : 0 < b) (ha : 0 ≤ a) (ha' : a ≤ 9223372036854775807) : Ex P e ⟨some d, .binOp .quo xt x y yt, T, pos, af, none⟩ (.int .i64 (a / b)) := by
  have := Ex.quo (P := P) (T := T) (pos := pos) (af := af) (d := d) (xt := xt) (yt := yt) hx hy (by omega)
  rw [Int.tdiv_eq_ediv_of_nonneg ha, wrap_i64_in] at this
  · exact this
  · have := Int.ediv_nonneg ha (by omega : 0 ≤ b); omega
  · have := Int.ediv_le_self b ha; omega
theorem Ex.addQ (hx : ev e x = some (.int q a)) (hy : ev e y = some (.int q b)) (hw : q.wrap (a + b) = a + b) : Ex P e ⟨some d, .binOp .add xt x y yt, T, pos, af, none⟩ (.int q (a + b)) := by
  have := Ex.add (P := P) (T := T) (pos := pos) (af := af) (d := d) (xt := xt) (yt := yt) hx hy
  rw [hw] at this
  exact this
theorem Ex.subQ (hx : ev e x = some (.int q a)) (hy : ev e y = some (.int q b)) (hw : q.wrap (a - b) = a - b) : Ex P e ⟨some d, .binOp .sub xt x y yt, T, pos, af, none⟩ (.int q (a - b)) := by
  have := Ex.sub (P := P) (T := T) (pos := pos) (af := af) (d := d) (xt := xt) (yt := yt) hx hy
  rw [hw] at this
  exact this
theorem Ex.quoQ (hx : ev e x = some (.int q a)) (hy : ev e y = some (.int q b)) (hb : 0 < b) (ha : 0 ≤ a) (hw : q.wrap (a / b) = a / b) : Ex P e ⟨some d, .binOp .quo xt x y yt, T, pos, af, none⟩ (.int q (a / b)) := by
  have := Ex.quo (P := P) (T := T) (pos := pos) (af := af) (d := d) (xt := xt) (yt := yt) hx hy (by omega)
  rw [Int.tdiv_eq_ediv_of_nonneg ha, hw] at this
  exact this
theorem Ex.eql (hx : ev e x = some (.int q a)) (hy : ev e y = some (.int q b)) : Ex P e ⟨some d, .binOp .eql xt x y yt, T, pos, af, none⟩ (.bool (a == b)) := fun c hc w => by simp [execOp, hc _ _ hx, hc _ _ hy, go_sem, binOp, eqGuard, Op.intCmp]
theorem Ex.neq (hx : ev e x = some (.int q a)) (hy : ev e y = some (.int q b)) : Ex P e ⟨some d, .binOp .neq xt x y yt, T, pos, af, none⟩ (.bool (a != b)) := fun c hc w => by simp [execOp, hc _ _ hx, hc _ _ hy, go_sem, binOp, eqGuard, Op.intCmp]
theorem Ex.lss (hx : ev e x = some (.int q a)) (hy : ev e y = some (.int q b)) : Ex P e ⟨some d, .binOp .lss xt x y yt, T, pos, af, none⟩ (.bool (decide (a < b))) := fun c hc w => by simp [execOp, hc _ _ hx, hc _ _ hy, go_sem, binOp, eqGuard, Op.intCmp]
theorem Ex.leq (hx : ev e x = some (.int q a)) (hy : ev e y = some (.int q b)) : Ex P e ⟨some d, .binOp .leq xt x y yt, T, pos, af, none⟩ (.bool (decide (a ≤ b))) := fun c hc w => by simp [execOp, hc _ _ hx, hc _ _ hy, go_sem, binOp, eqGuard, Op.intCmp]
theorem Ex.gtr (hx : ev e x = some (.int q a)) (hy : ev e y = some (.int q b)) : Ex P e ⟨some d, .binOp .gtr xt x y yt, T, pos, af, none⟩ (.bool (decide (b < a))) := fun c hc w => by simp [execOp, hc _ _ hx, hc _ _ hy, go_sem, binOp, eqGuard, Op.intCmp]
theorem Ex.geq (hx : ev e x = some (.int q a)) (hy : ev e y = some (.int q b)) : Ex P e ⟨some d, .binOp .geq xt x y yt, T, pos, af, none⟩ (.bool (decide (b ≤ a))) := fun c hc w => by simp [execOp, hc _ _ hx, hc _ _ hy, go_sem, binOp, eqGuard, Op.intCmp]
variable {s t : ByteArray}
theorem Ex.eqlS (hx : ev e x = some (.string s)) (hy : ev e y = some (.string t)) : Ex P e ⟨some d, .binOp .eql xt x y yt, T, pos, af, none⟩ (.bool (decide (s = t))) := by
  intro c hc w
  have h2 : (s.toList == t.toList) = decide (s = t) := by
    rw [ByteArray.toList_eq, ByteArray.toList_eq, Bool.eq_iff_iff]
    simp [ByteArray.ext_iff, Array.toList_inj]
  simp only [execOp, hc _ _ hx, hc _ _ hy, binOp, eqGuard, Op.stringOp]
  simp [h2]
theorem Ex.neqS (hx : ev e x = some (.string s)) (hy : ev e y = some (.string t)) : Ex P e ⟨some d, .binOp .neq xt x y yt, T, pos, af, none⟩ (.bool (!decide (s = t))) := by
  intro c hc w
  have h2 : (s.toList == t.toList) = decide (s = t) := by
    rw [ByteArray.toList_eq, ByteArray.toList_eq, Bool.eq_iff_iff]
    simp [ByteArray.ext_iff, Array.toList_inj]
  simp only [execOp, hc _ _ hx, hc _ _ hy, binOp, eqGuard, Op.stringOp]
  simp [h2]
theorem Ex.addS (hsz : s.size + t.size ≤ 9223372036854775807) (hx : ev e x = some (.string s)) (hy : ev e y = some (.string t)) : Ex P e ⟨some d, .binOp .add xt x y yt, T, pos, af, none⟩ (.string (s ++ t)) := by
  intro c hc w
  have : (s.size : Int) + t.size ≤ 9223372036854775807 := by omega
  simp [execOp, hc _ _ hx, hc _ _ hy, go_sem, binOp, eqGuard, Op.stringOp, this]
theorem Ex.lssS (hx : ev e x = some (.string s)) (hy : ev e y = some (.string t)) : Ex P e ⟨some d, .binOp .lss xt x y yt, T, pos, af, none⟩ (.bool (Op.bytesLess s.toList t.toList)) := by
  intro c hc w
  simp only [execOp, hc _ _ hx, hc _ _ hy, binOp, eqGuard, Op.stringOp]
  simp
theorem Ex.geqS (hx : ev e x = some (.string s)) (hy : ev e y = some (.string t)) : Ex P e ⟨some d, .binOp .geq xt x y yt, T, pos, af, none⟩ (.bool (!Op.bytesLess s.toList t.toList)) := by
  intro c hc w
  simp only [execOp, hc _ _ hx, hc _ _ hy, binOp, eqGuard, Op.stringOp]
  simp
theorem Ex.leqS (hx : ev e x = some (.string s)) (hy : ev e y = some (.string t)) : Ex P e ⟨some d, .binOp .leq xt x y yt, T, pos, af, none⟩ (.bool (Op.bytesLess s.toList t.toList || decide (s = t))) := by
  intro c hc w
  have h2 : (s.toList == t.toList) = decide (s = t) := by
    rw [ByteArray.toList_eq, ByteArray.toList_eq, Bool.eq_iff_iff]
    simp [ByteArray.ext_iff, Array.toList_inj]
  simp only [execOp, hc _ _ hx, hc _ _ hy, binOp, eqGuard, Op.stringOp]
  simp [h2]
variable {p r : Bool}
theorem Ex.eqlB (hx : ev e x = some (.bool p)) (hy : ev e y = some (.bool r)) (ht : P.underlying xt = some .bool) : Ex P e ⟨some d, .binOp .eql xt x y yt, T, pos, af, none⟩ (.bool (p == r)) := by
  intro c hc w
  have h1 : (Op.equal xt (.bool p) (.bool r)).run P w = .ok (p == r) w := run_eqBool 9999 ht
  simp only [execOp, hc _ _ hx, hc _ _ hy, binOp, eqGuard]
  simp [h1]
theorem Ex.neqB (hx : ev e x = some (.bool p)) (hy : ev e y = some (.bool r)) (ht : P.underlying xt = some .bool) : Ex P e ⟨some d, .binOp .neq xt x y yt, T, pos, af, none⟩ (.bool (p != r)) := by
  intro c hc w
  have h1 : (Op.equal xt (.bool p) (.bool r)).run P w = .ok (p == r) w := run_eqBool 9999 ht
  simp only [execOp, hc _ _ hx, hc _ _ hy, binOp, eqGuard]
  simp [h1]
  cases p <;> cases r <;> rfl
end bin
theorem Ex.not {xt : TypeId} {x : Operand} {p : Bool} (hx : ev e x = some (.bool p)) : Ex P e ⟨some d, .unOp .not xt x, T, pos, af, none⟩ (.bool (!p)) := fun c hc w => by simp [execOp, hc _ _ hx, go_sem, Op.unary]
theorem Ex.neg {xt : TypeId} {x : Operand} {q : IntKind} {a : Int} (hx : ev e x = some (.int q a)) : Ex P e ⟨some d, .unOp .neg xt x, T, pos, af, none⟩ (.int q (q.wrap (0 - a))) := fun c hc w => by simp [execOp, hc _ _ hx, go_sem, Op.unary, Op.intArith]
theorem Ex.conv {src dst : TypeId} {sd : TypeDesc} {x : Operand} {q q' : IntKind} {a : Int} (hx : ev e x = some (.int q a)) (hs : P.underlying src = some sd) (ht : P.underlying dst = some (.int q')) : Ex P e ⟨some d, .convert src dst x, T, pos, af, none⟩ (.int q' (q'.wrap a)) := fun c hc w => by simp [execOp, hc _ _ hx, go_sem, convert, run_underlying hs, run_underlying ht, Conv.intToInt]
theorem Ex.convQ {src dst : TypeId} {sd : TypeDesc} {x : Operand} {q q' : IntKind} {a : Int} (hx : ev e x = some (.int q a)) (hs : P.underlying src = some sd) (ht : P.underlying dst = some (.int q')) (hw : q'.wrap a = a) : Ex P e ⟨some d, .convert src dst x, T, pos, af, none⟩ (.int q' a) := by
  have := Ex.conv (P := P) (T := T) (pos := pos) (af := af) (d := d) hx hs ht
  rw [hw] at this
  exact this
theorem Ex.extract {x : Operand} {vs : Array Value} {i : Nat} {v : Value} (hx : ev e x = some (.tuple vs)) (hi : vs[i]? = some v) : Ex P e ⟨some d, .extract x i, T, pos, af, none⟩ (v) := fun c hc w => by simp [execOp, hc _ _ hx, go_sem, Instr.extract, hi]
theorem Ex.nilCheck {x : Operand} {ad : Addr} (hx : ev e x = some (.pointer (some ad))) : Ex P e ⟨some d, .nilCheck x, T, pos, af, none⟩ (.pointer (some ad)) := fun c hc w => by simp [execOp, hc _ _ hx, go_sem]
theorem Ex.field {xt : TypeId} {x : Operand} {i : Nat} {fs : Array Field} {f : Field} {cs : Array Value} {v : Value} (hx : ev e x = some (.agg cs)) (ht : P.underlying xt = some (.struct fs)) (hf : fs[i]? = some f) (hr : ∀ w, (part f.type cs f.offset).run P w = .ok v w) : Ex P e ⟨some d, .field xt x i, T, pos, af, none⟩ (v) := fun c hc w => by simp only [execOp, hc _ _ hx, Instr.field]; simp [run_underlying ht, hf, asAgg, hr]
theorem Ex.fieldAddr {xt : TypeId} {x : Operand} {i : Nat} {fs : Array Field} {f : Field} {g o : Nat} {z : Nat} (hx : ev e x = some (.pointer (some ⟨g, o, none⟩))) (ht : P.underlying xt = some (.struct fs)) (hf : fs[i]? = some f) (hz : (P.info? f.type).map (·.size) = some (z + 1)) : Ex P e ⟨some d, .fieldAddr xt x i, T, pos, af, none⟩ (.pointer (some ⟨g, o + f.offset, none⟩)) := by
  intro c hc w
  simp only [execOp, hc _ _ hx, Instr.fieldAt]
  simp [run_underlying ht, hf, fieldPlace, run_sizeOf hz, Instr.sureAddr, addr_add]
theorem Ex.indexAddr {xt et : TypeId} {x y : Operand} {ad : Option Addr} {l c : Nat} {q : IntKind} {i : Int} {g o j : Nat} {z : Nat} (hx : ev e x = some (.slice ad l c)) (hy : ev e y = some (.int q i)) (ht : P.underlying xt = some (.slice et)) (hz : (P.info? et).map (·.size) = some z) (hb : ad = some ⟨g, o, none⟩) (h0 : 0 ≤ i) (h1 : i < l) (hj : i.toNat * z = j) : Ex P e ⟨some d, .indexAddr xt x y, T, pos, af, none⟩ (.pointer (some ⟨g, o + j, none⟩)) := by
  intro c hc w
  subst hb
  subst hj
  simp only [execOp, hc _ _ hx, hc _ _ hy, Instr.indexAt]
  simp [run_underlying ht, asIntOf, run_sizeOf hz, h0, h1, addr_add]
theorem Ex.len {args : Array Operand} {tys : Array TypeId} {x : Operand} {ad : Option Addr} {l c : Nat} {t et : TypeId} (ha : args = #[x]) (hx : ev e x = some (.slice ad l c)) (hty : tys = #[t]) (ht : P.underlying t = some (.slice et)) : Ex P e ⟨some d, .call ⟨.builtin .len, args, tys⟩, T, pos, af, none⟩ (.int .i64 l) := by
  intro c hc w
  subst ha hty
  simp [execOp, hc _ _ hx, resolve, invoke, builtin, Builtin.len_, run_underlying ht, goInt]
theorem Ex.lenS {args : Array Operand} {tys : Array TypeId} {x : Operand} {s : ByteArray} {t : TypeId} (ha : args = #[x]) (hx : ev e x = some (.string s)) (hty : tys = #[t]) (ht : P.underlying t = some .string) : Ex P e ⟨some d, .call ⟨.builtin .len, args, tys⟩, T, pos, af, none⟩ (.int .i64 s.size) := by
  intro c hc w
  subst ha hty
  simp [execOp, hc _ _ hx, resolve, invoke, builtin, Builtin.len_, run_underlying ht, goInt]
theorem Ex.func {fn : Fn} {first captured : Array Operand} {fv cv : Array Value} (h1 : ∀ ρ : Operand → Value, (∀ x v, ev e x = some v → ρ x = v) → first.map ρ = fv) (h2 : ∀ ρ : Operand → Value, (∀ x v, ev e x = some v → ρ x = v) → captured.map ρ = cv) : Ex P e ⟨some d, .makeFunc fn first captured, T, pos, af, none⟩ (.func fn fv cv) := fun c hc w => by simp [execOp, go_sem, Instr.makeFunc, h1 c hc, h2 c hc]
theorem Ex.cut {xt et : TypeId} {x : Operand} {lo hi : Option Operand} {ad : Option Addr} {l c z : Nat} {i j : Int} (hx : ev e x = some (.slice ad l c)) (ht : P.underlying xt = some (.slice et)) (hz : (P.info? et).map (·.size) = some z)
    (hlo : match lo with | none => i = 0 | some o => ev e o = some (.int .i64 i)) (hhi : match hi with | none => j = l | some o => ev e o = some (.int .i64 j)) (h0 : 0 ≤ i) (h1 : i ≤ j) (h2 : j ≤ c) : Ex P e ⟨some d, .slice xt x lo hi none, T, pos, af, none⟩ (.slice (if c = i.toNat then ad else ad.map (·.add (i.toNat * z))) (j.toNat - i.toNat) (c - i.toNat)) := by
  intro cc hc w
  have hjj : (j.toNat : Int) = j := by omega
  have hij : i ≤ (j.toNat : Int) := by omega
  have hmx : ¬ max j 0 < i := by omega
  cases lo <;> cases hi <;> simp only at hlo hhi
  · subst hlo hhi
    simp [execOp, hc _ _ hx, Instr.sliceAt, Instr.slice, run_underlying ht, Instr.sliceBounds, run_sizeOf hz]
  · subst hlo
    simp [execOp, hc _ _ hx, hc _ _ hhi, Instr.sliceAt, Instr.slice, run_underlying ht, Instr.sliceBounds, Instr.sliceBound, asIntOf, run_sizeOf hz, h1, h2]
  · subst hhi
    simp [execOp, hc _ _ hx, hc _ _ hlo, Instr.sliceAt, Instr.slice, run_underlying ht, Instr.sliceBounds, Instr.sliceBound, asIntOf, run_sizeOf hz, h0, h1]
  · simp [execOp, hc _ _ hx, hc _ _ hhi, hc _ _ hlo, Instr.sliceAt, Instr.slice, run_underlying ht, Instr.sliceBounds, Instr.sliceBound, asIntOf, run_sizeOf hz, h0, h1, h2, (Int.le_trans h0 h1), hij]
    intro hh; exact absurd hh hmx
theorem Ex.cut3 {xt et : TypeId} {x a b : Operand} {lo : Option Operand} {ad : Option Addr} {l c z : Nat} {i j q : Int} (hx : ev e x = some (.slice ad l c)) (ht : P.underlying xt = some (.slice et)) (hz : (P.info? et).map (·.size) = some z)
    (hlo : match lo with | none => i = 0 | some o => ev e o = some (.int .i64 i)) (hhi : ev e a = some (.int .i64 j)) (hmx : ev e b = some (.int .i64 q)) (h0 : 0 ≤ i) (h1 : i ≤ j) (h2 : j ≤ q) (h3 : q ≤ c) : Ex P e ⟨some d, .slice xt x lo (some a) (some b), T, pos, af, none⟩ (.slice (if q.toNat = i.toNat then ad else ad.map (·.add (i.toNat * z))) (j.toNat - i.toNat) (q.toNat - i.toNat)) := by
  intro cc hc w
  have hq : (q.toNat : Int) = q := by omega
  have hj : (j.toNat : Int) = j := by omega
  have a1 : 0 ≤ q := by omega
  have a2 : 0 ≤ j := by omega
  have a3 : ¬ max q 0 < j := by omega
  have a4 : ¬ max j 0 < i := by omega
  have a5 : j ≤ max q 0 := by omega
  have a6 : i ≤ max j 0 := by omega
  cases lo <;> simp only at hlo
  · subst hlo
    simp [execOp, hc _ _ hx, hc _ _ hhi, hc _ _ hmx, Instr.sliceAt, Instr.slice, run_underlying ht, Instr.sliceBounds, Instr.sliceBound, asIntOf, run_sizeOf hz, a1, a2, h3, h2, a5]
  · simp [execOp, hc _ _ hx, hc _ _ hhi, hc _ _ hmx, hc _ _ hlo, Instr.sliceAt, Instr.slice, run_underlying ht, Instr.sliceBounds, Instr.sliceBound, asIntOf, run_sizeOf hz, a1, a2, h3, h2, a5, a6, h0]
theorem Ex.eq {o : Oper} {v v' : Value} (h : Ex P e o v) (hv : v = v') : Ex P e o v' := hv ▸ h
theorem ExS.load {S : World → Prop} {t : TypeId} {x : Operand} {ad : Addr} {v : Value} {u : TypeDesc} (hx : ev e x = some (.pointer (some ad))) (hu : P.underlying t = some u) (ha : aggB u = false) (hc : ∀ w, S w → w.cell? ad = some v) :
    ExS P S e ⟨some d, .load t x, T, pos, af, none⟩ v := by
  intro ρ hρ w hS
  simp only [execOp, hρ _ _ hx, Instr.loadAt, Instr.sureAddr]
  simp [loadVar, run_isAgg hu, ha, load, hc w hS]
theorem ExS.loadAgg {S : World → Prop} {t : TypeId} {x : Operand} {ad : Addr} {u : TypeDesc} {z : Nat} (cs : List Value) (hx : ev e x = some (.pointer (some ad))) (hu : P.underlying t = some u) (ha : aggB u = true) (hz : (P.info? t).map (·.size) = some z) (hl : cs.length = z)
    (hc : ∀ w, S w → ∀ j v, cs[j]? = some v → w.cell? (ad.add j) = some v) : ExS P S e ⟨some d, .load t x, T, pos, af, none⟩ (.agg cs.toArray) := by
  intro ρ hρ w hS
  simp only [execOp, hρ _ _ hx, Instr.loadAt, Instr.sureAddr]
  subst hl
  simp [loadVar, run_isAgg hu, ha, run_sizeOf hz, run_loadCells_list w ad cs (hc w hS)]

theorem Ex.build {t : TypeId} {parts : Array (Nat × Operand)} (cs : List Value) {fs : Array Field} {z : Value} {m : List (Nat × Value)} {pl : Array (Nat × Nat)} (hm : evs e parts.toList = some m) (ht : P.underlying t = some (.struct fs)) (hz : (P.info? t).map (·.zero) = some (some z))
    (hpl : ∀ w, (fs.mapM fun f => do pure (f.offset, ← sizeOf f.type) : Sem (Array (Nat × Nat))).run P w = .ok pl w) (hf : Instr.fill (pl[·]?) z.cells m = some cs.toArray) : Ex P e ⟨some d, .build t parts, T, pos, af, none⟩ (.agg cs.toArray) := by
  intro c hcc w
  obtain ⟨ti, hi, hzz⟩ := Option.map_eq_some_iff.1 hz
  have h1 := evs_spec hcc hm
  simp only [execOp, Instr.build]
  have h2 : (parts.map (fun (i, x) => (i, c x))).toList = m := by rw [Array.toList_map]; exact h1
  simp only [bind_pure_comp] at hpl
  simp [zeroValue, typeInfo, hi, hzz, run_underlying ht, hpl]
  simp only [Array.toList_map] at h2
  simp [h2, hf]
/-! ### A region that draws its order -/
/-- Each of some facts is kept, but where an operation that may turn it is named beside it. -/
def Pres (i : Nat) (w w' : World) : List (List Nat × (World → Prop)) → Prop
  | [] => True
  | (L, S) :: r => (i ∈ L ∨ (S w → S w')) ∧ Pres i w w' r
theorem Pres.refl (i : Nat) (w : World) : ∀ SL, Pres i w w SL
  | [] => trivial
  | (_, _) :: r => ⟨.inr (fun h => h), Pres.refl i w r⟩
theorem Pres.mem {i : Nat} {w w' : World} {L : List Nat} {S : World → Prop} : ∀ {SL}, Pres i w w' SL → (L, S) ∈ SL → (i ∈ L ∨ (S w → S w'))
  | (L0, S0) :: r, h, hm => by
    rcases List.mem_cons.1 hm with he | hm
    · cases he; exact h.1
    · exact Pres.mem h.2 hm
/-- Whatever order is picked from here on; 'S' holds behind every operation but, if one is named, the last one. -/
def wpAnyK (rd : Option Nat) (P : Program) (ops : Array Oper) (Q : Exit → Act → World → Prop) (SL : List (List Nat × (World → Prop))) : Nat → Array Bool → Act → World → Prop
  | 0, l, a, w => Region.ready .any ops l = [] ∧ Q .normal a w
  | m + 1, l, a, w => (Region.ready .any ops l = [] → Q .normal a w) ∧
    ∀ i ∈ Region.ready .any ops l, wpOpIn (Fw rd) 0 P ops Q i (fun a' w' => Pres i w w' SL ∧ wpAnyK rd P ops Q SL m (l.setIfInBounds i true) a' w') a w
theorem wpAnyIn_of_K {rd : Option Nat} {Q : Exit → Act → World → Prop} {SL : List (List Nat × (World → Prop))} : ∀ (m : Nat) (l : Array Bool) (a : Act) (w : World), wpAnyK rd P ops Q SL m l a w → wpAnyIn (Fw rd) 0 P .any ops Q m l a w
  | 0, _, _, _, h => h
  | m + 1, _, _, _, h => ⟨h.1, fun i hi => wpOpIn_mono (fun a' w' h' => wpAnyIn_of_K m _ a' w' h'.2) (h.2 i hi)⟩
def noDefer (ops : Array Oper) : Bool := ops.toList.all fun o => match o.op with
  | .defer _ => false
  | _ => true
theorem noDefer_spec (h : noDefer ops = true) {i : Nat} {o : Oper} (hi : ops[i]? = some o) : ∀ c, o.op ≠ .defer c := by
  intro c hc
  unfold noDefer at h
  rw [List.all_eq_true] at h
  have := h o (Array.mem_toList_iff.2 (Array.mem_of_getElem? hi))
  simp [hc] at this
theorem yieldsOp {rd : Option Nat} {Q : Exit → Act → World → Prop} {S : World → Prop} {i : Nat} {o : Oper} {v : Value} {a : Act} (hi : ops[i]? = some o) (hd : ∀ c, o.op ≠ .defer c) (hy : YieldsIf P ops S o v a) {K : Act → World → Prop} {w : World} (hS : S w) (h : K (a.put o.dst v) w) :
    wpOpIn (Fw rd) 0 P ops Q i K a w := by
  unfold wpOpIn
  simp only [hi]
  rcases hy with ⟨hw, hv⟩ | ⟨hw, rfl⟩
  · rw [if_pos hw]
    refine ⟨fun _ _ => trivial, ?_⟩
    rw [Oper.semAt_eq _ _ _ hd, hv w hS]
    exact h
  · rw [if_neg (by rw [hw]; simp)]
    exact ⟨fun _ _ => trivial, h⟩
/-- Whether a value that is taken first is there already makes no difference to an operation that is apart from it. -/
theorem opPut {rd : Option Nat} {Q : Exit → Act → World → Prop} {S : World → Prop} {j : Nat} {oi oj : Oper} {v : Value} (hj : ops[j]? = some oj) (hdj : ∀ c, oj.op ≠ .defer c) (hap : oi.apart ops oj = true) (hsi : ∀ cs b, oi.op ≠ .select cs b) (hsj : ∀ cs b, oj.op ≠ .select cs b)
    (hQ : ∀ c a w, Q (.panic c) (a.put oi.dst v) w → Q (.panic c) a w) {K : Act → World → Prop} {a : Act} {w : World} (hy : YieldsIf P ops S oi v a) (h : wpOpIn (Fw rd) 0 P ops Q j K (a.put oi.dst v) w) :
    wpOpIn (Fw rd) 0 P ops Q j (fun a' w' => YieldsIf P ops S oi v a' ∧ K (a'.put oi.dst v) w') a w := by
  obtain ⟨h1, h2, h3⟩ := Oper.apart_spec hap
  have hkeep : ∀ u, YieldsIf P ops S oi v (a.put oj.dst u) := fun u => hy.of_same (execOp_put oi hsi a oj.dst u h3) (wanted_put oi a oj.dst u h3)
  have hnext : ∀ u w', K ((a.put oi.dst v).put oj.dst u) w' → YieldsIf P ops S oi v (a.put oj.dst u) ∧ K ((a.put oj.dst u).put oi.dst v) w' := fun u w' hk => ⟨hkeep u, by rw [← Act.put_comm a v u h2]; exact hk⟩
  unfold wpOpIn at h ⊢
  simp only [hj] at h ⊢
  rw [wanted_put oj a oi.dst v h1] at h
  by_cases hw : Region.wanted oj (yielded ops a.tmps) = true
  · rw [if_pos hw] at h ⊢
    refine ⟨fun _ _ => trivial, ?_⟩
    have h := h.2
    rw [Oper.semAt_eq _ _ _ hdj, execOp_put oj hsj a oi.dst v h1] at h
    rw [Oper.semAt_eq _ _ _ hdj]
    generalize (execOp a.eval oj).run P w = r at h ⊢
    have hend : ∀ (x : Ending) (w'' : World), (match x, w'' with | .returned u, w'' => K ((a.put oi.dst v).put oj.dst u) w'' | .panicked c, w'' => Q (.panic c) (a.put oi.dst v) w'' | .outgrown, _ => LetsOut Q) →
        (match x, w'' with | .returned u, w'' => (YieldsIf P ops S oi v (a.put oj.dst u) ∧ K ((a.put oj.dst u).put oi.dst v) w'') | .panicked c, w'' => Q (.panic c) a w'' | .outgrown, _ => LetsOut Q) := by
      intro x w'' hx
      cases x with
      | returned u => exact hnext u w'' hx
      | panicked c => exact hQ _ _ _ hx
      | outgrown => exact hx
    cases r with
    | ok x w' =>
      cases x <;> simp only [Oper.uponIn] at h ⊢
      case value u => exact hnext u w' h
      case skip => exact hnext _ w' h
      case defer d => exact ⟨hy.of_same (a' := { a with defers := d :: a.defers }.put oj.dst undef) (execOp_put oi hsi { a with defers := d :: a.defers } oj.dst undef h3) (wanted_put oi { a with defers := d :: a.defers } oj.dst undef h3), by rw [← Act.put_comm _ v undef h2, ← Act.put_defers]; exact h⟩
      case enter f args => exact ⟨h.1, CallsIn.mono h.2 fun x w'' hx => hend x w'' hx⟩
      case row row args => exact ⟨h.1, RowsIn.mono h.2 fun u w'' hx => hnext u w'' hx⟩
      case round l f tmps assign body => exact ⟨h.1, RoundIn.mono h.2 fun x w'' hx => hend x w'' hx⟩
    | halt x w' =>
      cases x <;> simp only [Oper.uponIn] at h ⊢
      case panic u => exact hQ _ _ _ h
  · rw [if_neg hw] at h ⊢
    exact ⟨fun _ _ => trivial, hnext undef w h.2⟩
/-- Number j waits for number i, in so many steps at most. -/
def waitsB (ops : Array Oper) (i : Nat) : Nat → Nat → Bool
  | 0, _ => false
  | m + 1, j => match ops[j]? with
    | some o => o.after.toList.any fun x => Region.binds .any x && (x.on == i || waitsB ops i m x.on)
    | none => false
def Closed (ops : Array Oper) (l : Array Bool) : Prop := ∀ j o, ops[j]? = some o → l.getD j false = true → ∀ x ∈ o.after, Region.binds .any x = true → l.getD x.on false = true
def closedB (ops : Array Oper) (l : Array Bool) : Bool :=
  (List.range ops.size).all fun j => match ops[j]? with
    | some o => !l.getD j false || o.after.toList.all fun x => !Region.binds .any x || l.getD x.on false
    | none => true
theorem closedB_spec {l : Array Bool} (h : closedB ops l = true) : Closed ops l := by
  intro j o ho hj x hx hb
  unfold closedB at h
  rw [List.all_eq_true] at h
  have hlt : j < ops.size := by
    rcases Nat.lt_or_ge j ops.size with h' | h'
    · exact h'
    · rw [Array.getElem?_eq_none h'] at ho; cases ho
  have h1 := h j (List.mem_range.2 hlt)
  simp only [ho, hj, Bool.not_true, Bool.false_or, List.all_eq_true] at h1
  have h2 := h1 x (Array.mem_toList_iff.2 hx)
  simpa [hb] using h2
theorem getD_false_of_true {l : Array Bool} {i : Nat} (h : l.getD i true = false) : l.getD i false = false := by
  rcases Nat.lt_or_ge i l.size with h' | h'
  · simp [h'] at h ⊢; exact h
  · simp [Array.getElem?_eq_none h'] at h
theorem waits_listed {l : Array Bool} {i : Nat} (hc : Closed ops l) : ∀ (m j : Nat) (o : Oper), ops[j]? = some o → (∀ x ∈ o.after, Region.binds .any x = true → l.getD x.on false = true) → waitsB ops i m j = true → l.getD i false = true
  | 0, _, _, _, _, h => by simp [waitsB] at h
  | m + 1, j, o, ho, hall, h => by
    unfold waitsB at h
    simp only [ho, List.any_eq_true] at h
    obtain ⟨x, hx, hx'⟩ := h
    simp only [Bool.and_eq_true, Bool.or_eq_true, beq_iff_eq] at hx'
    have hxl := hall x (Array.mem_toList_iff.1 hx) hx'.1
    rcases hx'.2 with he | hw
    · rw [← he]; exact hxl
    · cases hox : ops[x.on]? with
      | none => cases m <;> simp [waitsB, hox] at hw
      | some o2 => exact waits_listed hc m x.on o2 hox (fun y hy hb => hc x.on o2 hox hxl y hy hb) hw
def lastWaits (ops : Array Oper) (L : List Nat) (i : Nat) : Bool := L.all fun j => waitsB ops i ops.size j
theorem wpAnyK_first {rd : Option Nat} {Q : Exit → Act → World → Prop} {SL : List (List Nat × (World → Prop))} {S : World → Prop} {L : List Nat} (hc : (L, S) ∈ SL) {i : Nat} {oi : Oper} {v : Value} (hi : ops[i]? = some oi) (hsel : ∀ (j : Nat) (o : Oper) cs b, ops[j]? = some o → o.op ≠ .select cs b)
    (hQ : ∀ c a w, Q (.panic c) (a.put oi.dst v) w → Q (.panic c) a w) (hL : lastWaits ops L i = true) (hnd : noDefer ops = true) (m : Nat) : ∀ (l : Array Bool) (a : Act) (w : World), Closed ops l →
      (∀ j oj, ops[j]? = some oj → j ≠ i → l.getD j true = false → (∀ x ∈ oj.after, Region.binds .any x = true → x.on ≠ i) → oi.apart ops oj = true) →
      i ∈ Region.ready .any ops l → YieldsIf P ops S oi v a → S w → wpAnyK rd P ops Q SL m (l.setIfInBounds i true) (a.put oi.dst v) w → wpAnyK rd P ops Q SL (m + 1) l a w := by
  induction m with
  | zero =>
    intro l a w _ _ hr hy hS hk
    refine ⟨fun h0 => (by rw [h0] at hr; cases hr), fun j hj => ?_⟩
    rcases Nat.decEq j i with hne | rfl
    · have h1 := ready_mono hj hne
      rw [hk.1] at h1
      cases h1
    · exact yieldsOp hi (noDefer_spec hnd hi) hy hS ⟨Pres.refl _ _ _, hk⟩
  | succ m ih =>
    intro l a w hcl hfree hr hy hS hk
    refine ⟨fun h0 => (by rw [h0] at hr; cases hr), fun j hj => ?_⟩
    rcases Nat.decEq j i with hne | rfl
    · obtain ⟨hun, oj, hoj, hall⟩ := mem_ready.1 hj
      have hi0 := getD_false_of_true (mem_ready.1 hr).1
      have hwait : ∀ x ∈ oj.after, Region.binds .any x = true → x.on ≠ i := by
        intro x hx hb he
        have h1 := hall x hx hb
        rw [he, hi0] at h1
        cases h1
      have h2 := opPut hoj (noDefer_spec hnd hoj) (hfree j oj hoj hne hun hwait) (fun cs b => hsel i oi cs b hi) (fun cs b => hsel j oj cs b hoj) hQ hy (hk.2 j (ready_mono hj hne))
      have hr' : i ∈ Region.ready .any ops (l.setIfInBounds j true) := ready_mono hr (Ne.symm hne)
      have hfree' : ∀ t ot, ops[t]? = some ot → t ≠ i → (l.setIfInBounds j true).getD t true = false → (∀ x ∈ ot.after, Region.binds .any x = true → x.on ≠ i) → oi.apart ops ot = true := by
        intro t ot ht hti hut hno
        refine hfree t ot ht hti ?_ hno
        rcases Nat.decEq j t with hjt | rfl
        · rwa [getD_set_ne true hjt] at hut
        · exact hun
      have hcl' : Closed ops (l.setIfInBounds j true) := by
        intro t ot ht htl x hx hb
        refine getD_set_true ?_
        rcases Nat.decEq j t with hjt | rfl
        · exact hcl t ot ht (by rwa [getD_set_ne false hjt] at htl) x hx hb
        · rw [hoj] at ht
          cases ht
          exact hall x hx hb
      refine wpOpIn_mono (fun a' w' h3 => ?_) h2
      obtain ⟨hy', hs', hk'⟩ := h3
      rw [Array.setIfInBounds_comm _ _ (Ne.symm hne)] at hk'
      have hSw : S w' := by
        rcases hs'.mem hc with hLj | hs2
        · exfalso
          have hL' : waitsB ops i ops.size j = true := (List.all_eq_true.1 hL) j hLj
          have := waits_listed hcl _ j oj hoj hall hL'
          rw [hi0] at this
          cases this
        · exact hs2 hS
      exact ⟨hs', ih (l.setIfInBounds j true) a' w' hcl' hfree' hr' hy' hSw hk'⟩
    · exact yieldsOp hi (noDefer_spec hnd hi) hy hS ⟨Pres.refl _ _ _, hk⟩
theorem wpAnyK_firstP {rd : Option Nat} {Q : Exit → Act → World → Prop} {SL : List (List Nat × (World → Prop))} {i : Nat} {oi : Oper} {v : Value} (hi : ops[i]? = some oi) (hsel : ∀ (j : Nat) (o : Oper) cs b, ops[j]? = some o → o.op ≠ .select cs b)
    (hQ : ∀ c a w, Q (.panic c) (a.put oi.dst v) w → Q (.panic c) a w) (hnd : noDefer ops = true) (m : Nat) : ∀ (l : Array Bool) (a : Act) (w : World), Closed ops l →
      (∀ j oj, ops[j]? = some oj → j ≠ i → l.getD j true = false → (∀ x ∈ oj.after, Region.binds .any x = true → x.on ≠ i) → oi.apart ops oj = true) →
      i ∈ Region.ready .any ops l → YieldsIf P ops (fun _ => True) oi v a → wpAnyK rd P ops Q SL m (l.setIfInBounds i true) (a.put oi.dst v) w → wpAnyK rd P ops Q SL (m + 1) l a w := by
  induction m with
  | zero =>
    intro l a w _ _ hr hy hk
    refine ⟨fun h0 => (by rw [h0] at hr; cases hr), fun j hj => ?_⟩
    rcases Nat.decEq j i with hne | rfl
    · have h1 := ready_mono hj hne
      rw [hk.1] at h1
      cases h1
    · exact yieldsOp hi (noDefer_spec hnd hi) hy trivial ⟨Pres.refl _ _ _, hk⟩
  | succ m ih =>
    intro l a w hcl hfree hr hy hk
    refine ⟨fun h0 => (by rw [h0] at hr; cases hr), fun j hj => ?_⟩
    rcases Nat.decEq j i with hne | rfl
    · obtain ⟨hun, oj, hoj, hall⟩ := mem_ready.1 hj
      have hi0 := getD_false_of_true (mem_ready.1 hr).1
      have hwait : ∀ x ∈ oj.after, Region.binds .any x = true → x.on ≠ i := by
        intro x hx hb he
        have h1 := hall x hx hb
        rw [he, hi0] at h1
        cases h1
      have h2 := opPut hoj (noDefer_spec hnd hoj) (hfree j oj hoj hne hun hwait) (fun cs b => hsel i oi cs b hi) (fun cs b => hsel j oj cs b hoj) hQ hy (hk.2 j (ready_mono hj hne))
      have hr' : i ∈ Region.ready .any ops (l.setIfInBounds j true) := ready_mono hr (Ne.symm hne)
      have hfree' : ∀ t ot, ops[t]? = some ot → t ≠ i → (l.setIfInBounds j true).getD t true = false → (∀ x ∈ ot.after, Region.binds .any x = true → x.on ≠ i) → oi.apart ops ot = true := by
        intro t ot ht hti hut hno
        refine hfree t ot ht hti ?_ hno
        rcases Nat.decEq j t with hjt | rfl
        · rwa [getD_set_ne true hjt] at hut
        · exact hun
      have hcl' : Closed ops (l.setIfInBounds j true) := by
        intro t ot ht htl x hx hb
        refine getD_set_true ?_
        rcases Nat.decEq j t with hjt | rfl
        · exact hcl t ot ht (by rwa [getD_set_ne false hjt] at htl) x hx hb
        · rw [hoj] at ht
          cases ht
          exact hall x hx hb
      refine wpOpIn_mono (fun a' w' h3 => ?_) h2
      obtain ⟨hy', hs', hk'⟩ := h3
      rw [Array.setIfInBounds_comm _ _ (Ne.symm hne)] at hk'
      exact ⟨hs', ih (l.setIfInBounds j true) a' w' hcl' hfree' hr' hy' hk'⟩
    · exact yieldsOp hi (noDefer_spec hnd hi) hy trivial ⟨Pres.refl _ _ _, hk⟩
def markOf (ops : Array Oper) (l : List Nat) : Array Bool := l.foldl (fun (x : Array Bool) i => x.setIfInBounds i true) (Array.replicate ops.size false)
theorem markOf_snoc (ops : Array Oper) (l : List Nat) (i : Nat) : markOf ops (l ++ [i]) = (markOf ops l).setIfInBounds i true := by simp [markOf, List.foldl_append]
/-- Whatever order is picked from here on; 'S' holds behind every operation. -/
def Any (P : Program) (n : Fm) (Qf : Exit → Act → World → Prop) (k : List It) (ops : Array Oper) (SL : List (List Nat × (World → Prop))) (fuel : Nat) (l : List Nat) (e : Env) (w : World) : Prop :=
  ∀ a, Has n e a → wpAnyK n.rd P ops (QQ P n.rd Qf k) SL fuel (markOf ops l) a w
theorem Run.draw {id : Nat} (SL : List (List Nat × (World → Prop))) (hm : P.follows .mixedOrders = true) (h : ∀ w', w' = w.drew → Any P n Qf k ops SL ops.size [] e w') : Run P n Qf (.code (.region id ops true) :: k) e w :=
  fun a ha => wpIn_region_any hm (wpAnyIn_of_K _ _ _ _ (h _ rfl a ha))
theorem QQ_panic {a : Act} {c : List PanicEntry} : ∀ (k : List It), QQ P n.rd Qf k (.panic c) a w = Qf (.panic c) a w
  | [] => rfl
  | .code _ :: k => QQ_panic k
  | .blk _ :: k => QQ_panic k
  | .stop _ _ :: k => QQ_panic k
  | .stopF _ :: k => QQ_panic k
theorem panic_body {P : Program} {fn : Func} {R : Ending → World → Prop} (c : List PanicEntry) (a : Act) (d : Option Tmp) (v : Value) (w : World) (h : bodyPost P fn R (.panic c) (Act.put a d v) w) : bodyPost P fn R (.panic c) a w := by
  cases d <;> exact h
/-- Number i is taken first: it yields its value in whatever world meets S. -/
theorem Any.take {SL : List (List Nat × (World → Prop))} {S : World → Prop} {L : List Nat} (c : Nat) {fuel : Nat} {l : List Nat} (i : Nat) {o : Oper} {v : Value} (hc : SL[c]? = some (L, S)) (hi : ops[i]? = some o) (hg : guardOf ops e o.guard = some true) (hd : o.dst = some d) (hn : Nat.blt d n.size = true)
    (hb : (Region.noSelect ops && Region.free .any ops (markOf ops l) i && (Region.ready .any ops (markOf ops l)).contains i && closedB ops (markOf ops l) && noDefer ops && lastWaits ops L i) = true) (hR : ∀ c a d v w, Qf (.panic c) (Act.put a d v) w → Qf (.panic c) a w) (hv : ExS P S e o v) (hS : S w)
    (h : Any P n Qf k ops SL fuel (l ++ [i]) ((d, v) :: e) w) : Any P n Qf k ops SL (fuel + 1) l e w := by
  intro a ha
  simp only [Bool.and_eq_true] at hb
  refine wpAnyK_first (List.mem_of_getElem? hc) hi (Region.noSelect_spec hb.1.1.1.1.1) (fun c a w h => ?_) hb.2 hb.1.2 fuel _ a w (closedB_spec hb.1.1.2) (Region.free_spec hi hb.1.1.1.1.2) (by simpa using hb.1.1.1.2) (.inl ⟨wanted_of ha hg, fun w hw => hv a.eval (fun x v hx => ha.eval hx) w hw⟩) hS ?_
  · rw [QQ_panic] at h ⊢; exact hR _ _ _ _ _ h
  · have := h _ (ha.put d hn v)
    rw [markOf_snoc] at this
    rw [hd]; exact this
/-- .. whatever the world is. -/
theorem Any.takeE {SL : List (List Nat × (World → Prop))} {fuel : Nat} {l : List Nat} (i : Nat) {o : Oper} {v : Value} (hi : ops[i]? = some o) (hg : guardOf ops e o.guard = some true) (hd : o.dst = some d) (hn : Nat.blt d n.size = true)
    (hb : (Region.noSelect ops && Region.free .any ops (markOf ops l) i && (Region.ready .any ops (markOf ops l)).contains i && closedB ops (markOf ops l) && noDefer ops) = true) (hR : ∀ c a d v w, Qf (.panic c) (Act.put a d v) w → Qf (.panic c) a w) (hv : ExS P (fun _ => True) e o v)
    (h : Any P n Qf k ops SL fuel (l ++ [i]) ((d, v) :: e) w) : Any P n Qf k ops SL (fuel + 1) l e w := by
  intro a ha
  simp only [Bool.and_eq_true] at hb
  refine wpAnyK_firstP hi (Region.noSelect_spec hb.1.1.1.1) (fun c a w h => ?_) hb.2 fuel _ a w (closedB_spec hb.1.2) (Region.free_spec hi hb.1.1.1.2) (by simpa using hb.1.1.2) (.inl ⟨wanted_of ha hg, fun w hw => hv a.eval (fun x v hx => ha.eval hx) w hw⟩) ?_
  · rw [QQ_panic] at h ⊢; exact hR _ _ _ _ _ h
  · have := h _ (ha.put d hn v)
    rw [markOf_snoc] at this
    rw [hd]; exact this
/-- .. its guard says no. -/
theorem Any.pass {SL : List (List Nat × (World → Prop))} {fuel : Nat} {l : List Nat} (i : Nat) {o : Oper} (hi : ops[i]? = some o) (hg : guardOf ops e o.guard = some false) (hd : o.dst = some d) (hn : Nat.blt d n.size = true)
    (hb : (Region.noSelect ops && Region.free .any ops (markOf ops l) i && (Region.ready .any ops (markOf ops l)).contains i && closedB ops (markOf ops l) && noDefer ops) = true) (hR : ∀ c a d v w, Qf (.panic c) (Act.put a d v) w → Qf (.panic c) a w)
    (h : Any P n Qf k ops SL fuel (l ++ [i]) ((d, undef) :: e) w) : Any P n Qf k ops SL (fuel + 1) l e w := by
  intro a ha
  simp only [Bool.and_eq_true] at hb
  refine wpAnyK_firstP (v := undef) hi (Region.noSelect_spec hb.1.1.1.1) (fun c a w h => ?_) hb.2 fuel _ a w (closedB_spec hb.1.2) (Region.free_spec hi hb.1.1.1.2) (by simpa using hb.1.1.2) (.inr ⟨wanted_of ha hg, rfl⟩) ?_
  · rw [QQ_panic] at h ⊢; exact hR _ _ _ _ _ h
  · have := h _ (ha.put d hn undef)
    rw [markOf_snoc] at this
    rw [hd]; exact this
/-- All have come up. -/
theorem Any.done {SL : List (List Nat × (World → Prop))} {fuel : Nat} {l : List Nat} (hr : (Region.ready .any ops (markOf ops l)).isEmpty = true) (h : Run P n Qf k e w) : Any P n Qf k ops SL fuel l e w :=
  fun a ha => by
  have hr' : Region.ready .any ops (markOf ops l) = [] := by simpa using hr
  cases fuel with
  | zero => exact ⟨hr', h a ha⟩
  | succ m => exact ⟨fun _ => h a ha, by rw [hr']; simp⟩
/-- One operation as in a region that does not draw. -/
def One (P : Program) (n : Fm) (Qf : Exit → Act → World → Prop) (k : List It) (o : Oper) (e : Env) (w : World) (K : Env → World → Prop) : Prop :=
  ∀ a, Has n e a → o.wpIn (Fw n.rd) 0 P a w (fun a' w' => ∃ e', Has n e' a' ∧ K e' w') (QQ P n.rd Qf k)
/-- Whichever comes up comes up. -/
theorem Any.all {SL : List (List Nat × (World → Prop))} {fuel : Nat} {l : List Nat} (is : List Nat) (hr : ((Region.ready .any ops (markOf ops l)) == is) = true) (hne : is.isEmpty = false)
    (h : ∀ i, i ∈ is → ∃ o, ops[i]? = some o ∧ guardOf ops e o.guard = some true ∧ One P n Qf k o e w (fun e' w' => Pres i w w' SL ∧ Any P n Qf k ops SL fuel (l ++ [i]) e' w')) : Any P n Qf k ops SL (fuel + 1) l e w := by
  intro a ha
  have hr' : Region.ready .any ops (markOf ops l) = is := by simpa using hr
  refine ⟨fun h0 => (by rw [hr'] at h0; simp [h0] at hne), fun i hi => ?_⟩
  rw [hr'] at hi
  obtain ⟨o, ho, hg, h1⟩ := h i hi
  unfold wpOpIn
  simp only [ho]
  rw [if_pos (wanted_of ha hg)]
  refine Oper.wpIn_mono ?_ (h1 a ha)
  rintro a' w' ⟨e', he', hS, hA⟩
  refine ⟨hS, ?_⟩
  have := hA a' he'
  rw [markOf_snoc] at this
  exact this
theorem Any.one {SL : List (List Nat × (World → Prop))} {fuel : Nat} {l : List Nat} (i : Nat) {o : Oper} (hr : ((Region.ready .any ops (markOf ops l)) == [i]) = true) (ho : ops[i]? = some o) (hg : guardOf ops e o.guard = some true)
    (h : One P n Qf k o e w (fun e' w' => Pres i w w' SL ∧ Any P n Qf k ops SL fuel (l ++ [i]) e' w')) : Any P n Qf k ops SL (fuel + 1) l e w :=
  Any.all [i] hr rfl (fun j hj => by rw [List.mem_singleton] at hj; subst hj; exact ⟨o, ho, hg, h⟩)
theorem wpIn_monoQ {F : Fence} {m : Nat} {o : Oper} {a : Act} {w : World} {K : Act → World → Prop} {Q Q' : Exit → Act → World → Prop} (h1 : ∀ c a w, Q (.panic c) a w → Q' (.panic c) a w) (h2 : ∀ a w, Q .outgrown a w → Q' .outgrown a w)
    (hh : o.wpIn F m P a w K Q) : o.wpIn F m P a w K Q' := by
  refine ⟨hh.1, ?_⟩
  have hh := hh.2
  generalize (o.semAt F.round a.eval).run P w = r at hh ⊢
  have hend : ∀ (x : Ending) (w'' : World), (match x, w'' with | .returned u, w'' => K (a.put o.dst u) w'' | .panicked c, w'' => Q (.panic c) a w'' | .outgrown, _ => LetsOut Q) →
      (match x, w'' with | .returned u, w'' => K (a.put o.dst u) w'' | .panicked c, w'' => Q' (.panic c) a w'' | .outgrown, _ => LetsOut Q') := by
    intro x w'' hx
    cases x with
    | returned u => exact hx
    | panicked c => exact h1 _ _ _ hx
    | outgrown => obtain ⟨a0, w0, h⟩ := hx; exact ⟨a0, w0, h2 _ _ h⟩
  cases r with
  | ok x w' =>
    cases x <;> simp only [Oper.uponIn] at hh ⊢ <;> first | exact hh | skip
    case enter f args => exact ⟨hh.1, CallsIn.mono hh.2 fun x w'' hx => hend x w'' hx⟩
    case round l f tmps assign body => exact ⟨hh.1, RoundIn.mono hh.2 fun x w'' hx => hend x w'' hx⟩
  | halt x w' => cases x <;> simp only [Oper.uponIn] at hh ⊢ <;> exact h1 _ _ _ hh
/-- An operation that turns the world, by the rule of a region that does not draw. -/
theorem One.of_ops {o : Oper} {K : Env → World → Prop} (hg : o.guard = none) (h : Ops P n Qf (.stop n K :: k) #[] [o] e w) : One P n Qf k o e w K := by
  intro a ha
  have h1 := h a ha
  unfold wpListIn at h1
  rw [if_pos (by simp [Region.wanted, hg])] at h1
  exact wpIn_monoQ (fun c a w q => q) (fun a w q => q) h1
theorem Ops.stop {K : Env → World → Prop} (h : K e w) : Ops P n Qf (.stop n K :: k) ops [] e w := Ops.nil (Run.stop h)
end Go.Proofs.YtiekoeapmhhjbaaGreatDoor.Sx
