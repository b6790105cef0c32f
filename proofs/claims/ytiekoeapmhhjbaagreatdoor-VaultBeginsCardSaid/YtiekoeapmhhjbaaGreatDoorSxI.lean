/- A small logic of walks, part I: structs that are equal to themselves; rows of bytes among the arguments. -/
import Derived.Test.YtiekoeapmhhjbaaGreatDoorSxH
import Derived.Laws.StructEq
namespace Go.Proofs.YtiekoeapmhhjbaaGreatDoor.Sx
open Go Go.RowKit
set_option linter.unusedVariables false
set_option linter.unusedSimpArgs false
/-- A value is equal to itself (at this depth and type). -/
def EqR (P : Program) (d : Nat) (t : TypeId) (v : Value) : Prop := ∀ w, (Op.equalIn d t v v).run P w = .ok true w
/-- Each field's part is. -/
def EqF (P : Program) (d : Nat) (xs : Array Value) : List Field → Prop
  | [] => True
  | f :: r => (∃ v, (∀ w, (part f.type xs f.offset).run P w = .ok v w) ∧ EqR P d f.type v) ∧ EqF P d xs r
variable {P : Program} {n : Fm} {Qf : Exit → Act → World → Prop} {k : List It} {e : Env} {w w' w0 : World} {F0 : Nat → Prop} {H : List Res} {ops : Array Oper} {rest : List Oper} {T : TypeId} {pos : String} {af : Array Edge} {d : Nat}
theorem EqR.int {t : TypeId} {q k : IntKind} {a : Int} {m : Nat} (hu : P.underlying t = some (.int q)) : EqR P (m + 1) t (.int k a) := fun w => by
  rw [run_equalIn_int w m t k q a a hu]
  simp
theorem EqR.str {t : TypeId} {a : ByteArray} {m : Nat} (hu : P.underlying t = some .string) : EqR P (m + 1) t (.string a) := fun w => by
  rw [run_equalIn_string w m t a a hu]
  simp
theorem EqR.bool {t : TypeId} {a : Bool} {m : Nat} (hu : P.underlying t = some .bool) : EqR P (m + 1) t (.bool a) := fun w => by
  rw [run_equalIn_bool' w m t a a hu]
  simp
theorem eqFields_refl {m : Nat} {xs : Array Value} : ∀ {fs : List Field}, EqF P m xs fs → ∀ w, (Op.eqFields m xs xs fs).run P w = .ok true w
  | [], _, w => by simp [Op.eqFields]
  | f :: r, ⟨⟨v, h1, h2⟩, h3⟩, w => by
    have h4 := eqFields_refl h3 w
    have h5 := h2 w
    simp only [Op.eqFields]
    split
    · simp [h1, h5, h4]
    · exact h4
theorem EqR.agg {t : TypeId} {fs : Array Field} {xs : Array Value} {m : Nat} (ht : P.underlying t = some (.struct fs)) (hp : P.stoodInHeld t = false) (hf : EqF P m xs fs.toList) : EqR P (m + 1) t (.agg xs) := fun w => by
  have hfs : P.fieldsOf t = fs := by simp [Program.fieldsOf, ht]
  rw [run_equalIn_struct w m t xs xs (by rw [hfs]; exact ht) hp, hfs]
  exact eqFields_refl hf w
theorem Ex.eqlR {xt yt : TypeId} {x y : Operand} {cs : Array Value} (hx : ev e x = some (.agg cs)) (hy : ev e y = some (.agg cs)) (hr : EqR P 10000 xt (.agg cs)) (hm : P.eqGuardType P.depth xt = false) : Ex P e ⟨some d, .binOp .eql xt x y yt, T, pos, af, none⟩ (.bool true) := fun c hc w => by
  have h := hr w
  have h2 := run_eqGuard_agg w .eql xt x y cs cs hm
  have h3 := run_eql_struct (P := P) w xt cs cs
  rw [h] at h3
  simp only [execOp, hc _ _ hx, hc _ _ hy]
  simp [h2, h3]
theorem Ex.neqR {xt yt : TypeId} {x y : Operand} {cs : Array Value} (hx : ev e x = some (.agg cs)) (hy : ev e y = some (.agg cs)) (hr : EqR P 10000 xt (.agg cs)) (hm : P.eqGuardType P.depth xt = false) : Ex P e ⟨some d, .binOp .neq xt x y yt, T, pos, af, none⟩ (.bool false) := fun c hc w => by
  have h := hr w
  have h2 := run_eqGuard_agg w .neq xt x y cs cs hm
  have h3 := run_neq_struct (P := P) w xt cs cs
  rw [h] at h3
  simp only [execOp, hc _ _ hx, hc _ _ hy]
  simp [h2, h3]
theorem Ops.eqlR {xt yt : TypeId} {x y : Operand} {cs : Array Value} (hx : ev e x = some (.agg cs)) (hy : ev e y = some (.agg cs)) (hr : EqR P 10000 xt (.agg cs)) (hm : P.eqGuardType P.depth xt = false) (hn : Nat.blt d n.size = true) (h : Ops P n Qf k ops rest ((d, .bool true) :: e) w) : Ops P n Qf k ops (⟨some d, .binOp .eql xt x y yt, T, pos, af, none⟩ :: rest) e w :=
  Ops.ex (Ex.eqlR hx hy hr hm) rfl rfl hn h
theorem Ops.neqR {xt yt : TypeId} {x y : Operand} {cs : Array Value} (hx : ev e x = some (.agg cs)) (hy : ev e y = some (.agg cs)) (hr : EqR P 10000 xt (.agg cs)) (hm : P.eqGuardType P.depth xt = false) (hn : Nat.blt d n.size = true) (h : Ops P n Qf k ops rest ((d, .bool false) :: e) w) : Ops P n Qf k ops (⟨some d, .binOp .neq xt x y yt, T, pos, af, none⟩ :: rest) e w :=
  Ops.ex (Ex.neqR hx hy hr hm) rfl rfl hn h
/-- A row of one-cell elements that the world holds behind an address. -/
theorem Rd.of_cells {a : Addr} {l c : Nat} {xs : List Value} (hs : a.spot = none) (hl : xs.length = l) (hc : l ≤ c) (h1 : ∀ u ∈ xs, u.oneCell' = true) (h : ∀ j u, xs[j]? = some u → w.cell? (a.add j) = some u) : Rd w 1 (.slice (some a) l c) l xs :=
  ⟨by omega, h1, some a, c, rfl, hc, .inr ⟨a, rfl, fun _ => hs, fun j u hj => by rw [← addr_lit hs]; exact h j u hj⟩⟩
theorem St.owns (h : St w0 F0 H w) : Owns H w := St.hand (H2 := []) (by rw [List.append_nil]; exact h)
theorem St.whole {H' : List Res} (h : St w0 F0 H w) (h' : St w (fps H) H' w') : St w0 F0 H' w' := by
  have := St.back (H1 := H) (H1' := H') (H2 := []) (by rw [List.append_nil]; exact h) h'
  rw [List.append_nil] at this
  exact this
theorem St.sepR {H1 H2 : List Res} {R : Res} (h : St w0 F0 (H1 ++ H2) w) (hR : R ∈ H2) {k : Nat} (hk : R.S k) : ¬ fps H1 k := by
  rintro ⟨Q, hQ, hS⟩
  exact (List.pairwise_append.1 h.dis).2.2 Q hQ R hR k hS hk
theorem St.sepI {H1 H2 : List Res} {g l c : Nat} {cs : List Value} {Tb : TypeId} (h : St w0 F0 (H1 ++ H2) w) (i : Nat) (hi : H2[i]? = some (blk g cs Tb)) : ∀ k, (Value.slice (some ⟨g, 0, none⟩) l c).ownBlock = some k → ¬ fps H1 k := fun k hk => by
  cases hk
  exact h.sepR (List.mem_of_getElem? hi) rfl
theorem St.sepB {H1 rs : List Res} {g l c : Nat} {cs : List Value} {Tb : TypeId} (h : St w0 F0 (H1 ++ blk g cs Tb :: rs) w) : ∀ k, (Value.slice (some ⟨g, 0, none⟩) l c).ownBlock = some k → ¬ fps H1 k := fun k hk => by
  cases hk
  exact h.sepR (List.mem_cons_self ..) rfl
/-- What is owed, and no panic. -/
def NP (Q : Exit → Act → World → Prop) : Exit → Act → World → Prop := fun x a w => match x with
  | .panic _ => False
  | x => Q x a w
theorem NP_le {Q : Exit → Act → World → Prop} {x : Exit} {a : Act} {w : World} (h : NP Q x a w) : Q x a w := by
  cases x <;> first | exact h | exact h.elim
theorem QQ_mono {rd : Option Nat} {Q Q' : Exit → Act → World → Prop} (hq : ∀ x a w, Q x a w → Q' x a w) : ∀ (k : List It) (x : Exit) (a : Act) (w : World), QQ P rd Q k x a w → QQ P rd Q' k x a w
  | [], x, a, w, h => hq x a w h
  | .code c :: k, x, a, w, h => by
    cases x <;> first | exact QQ_mono hq k _ a w h | exact wpIn_mono h (QQ_mono hq k)
  | .blk id :: k, x, a, w, h => by
    cases x <;> first | exact QQ_mono hq k _ a w h | skip
    rename_i j
    simp only [QQ] at h ⊢
    split
    · rename_i hj
      rw [if_pos hj] at h
      exact QQ_mono hq k _ a w h
    · rename_i hj
      rw [if_neg hj] at h
      exact QQ_mono hq k _ a w h
  | .stop m Z :: k, x, a, w, h => by
    cases x <;> first | exact QQ_mono hq k _ a w h | exact h
  | .stopF Z :: k, x, a, w, h => by
    cases x <;> first | exact QQ_mono hq k _ a w h | exact h
/-- From here on no panic is left. -/
theorem Run.np {k : List It} (h : Run P n (NP Qf) k e w) : Run P n Qf k e w := fun a ha => QQ_mono (fun _ _ _ => NP_le) k _ _ _ (h a ha)
theorem Run.retN {k : List It} {fn : Func} {R : Ending → World → Prop} {w' : World} (v : Value) (hd : Shut n.ds w w') (hr : ∀ a, Has n e a → (results fn a.tmps).run P w' = .ok v w') (h : R (.returned v) w') :
    Run P n (NP (bodyPostM (Fw none) 0 P fn R)) (.code .ret :: k) e w :=
  fun a ha => wpIn_ret (QQ_ret k (by show LeavesInM _ _ _ _ _ _ a.defers _ _; rw [ha.defers]; exact leaves_of_shut hd (hr a ha) h))
theorem Run.doneN {fn : Func} {R : Ending → World → Prop} {w' : World} (v : Value) (hd : Shut n.ds w w') (hr : ∀ a, Has n e a → (results fn a.tmps).run P w' = .ok v w') (h : R (.returned v) w') :
    Run P n (NP (bodyPostM (Fw none) 0 P fn R)) [] e w :=
  fun a ha => by show LeavesInM _ _ _ _ _ _ a.defers _ _; rw [ha.defers]; exact leaves_of_shut hd (hr a ha) h
theorem One.g {k : List It} {dst : Option Tmp} {op : Op} {gu : Nat × Bool} {K : Env → World → Prop} (h : One P n Qf k ⟨dst, op, T, pos, af, none⟩ e w K) : One P n Qf k ⟨dst, op, T, pos, af, some gu⟩ e w K := fun a ha => by
  have h1 := h a ha
  cases op <;> exact h1
theorem Ex.shr {xt yt : TypeId} {x y : Operand} {q r : IntKind} {a b m : Int} (hx : ev e x = some (.int q a)) (hy : ev e y = some (.int r b)) (h0 : 0 ≤ b) (h1 : b ≤ q.bits) (hm : (2 : Int) ^ b.toNat = m) : Ex P e ⟨some d, .binOp .shr xt x y yt, T, pos, af, none⟩ (.int q (a / m)) := fun c hc w => by
  have h := shift_shr q r a b h0 h1
  rw [hm] at h
  simp only [execOp, hc _ _ hx, hc _ _ hy, binOp_shr, eqGuard_shr, h]
  simp
theorem Ops.shr {xt yt : TypeId} {x y : Operand} {q r : IntKind} {a b m : Int} (hx : ev e x = some (.int q a)) (hy : ev e y = some (.int r b)) (h0 : 0 ≤ b) (h1 : b ≤ q.bits) (hm : (2 : Int) ^ b.toNat = m) (hn : Nat.blt d n.size = true) (h : Ops P n Qf k ops rest ((d, .int q (a / m)) :: e) w) :
    Ops P n Qf k ops (⟨some d, .binOp .shr xt x y yt, T, pos, af, none⟩ :: rest) e w := Ops.ex (Ex.shr hx hy h0 h1 hm) rfl rfl hn h
theorem Ops.funcE {fn : Fn} {first captured : Array Operand} {fv cv : List Value} (h1 : evl e first.toList = some fv) (h2 : evl e captured.toList = some cv) (hn : Nat.blt d n.size = true) (h : Ops P n Qf k ops rest ((d, .func fn fv.toArray cv.toArray) :: e) w) : Ops P n Qf k ops (⟨some d, .makeFunc fn first captured, T, pos, af, none⟩ :: rest) e w := by
  refine Ops.func (fun ρ hρ => ?_) (fun ρ hρ => ?_) hn h
  · have := evl_spec hρ h1
    rw [← Array.toList_map] at this
    rw [← this]
  · have := evl_spec hρ h2
    rw [← Array.toList_map] at this
    rw [← this]
theorem Ex.cutS {xt : TypeId} {x a b : Operand} {s : ByteArray} {i j : Int} (hx : ev e x = some (.string s)) (ht : P.underlying xt = some .string) (hlo : ev e a = some (.int .i64 i)) (hhi : ev e b = some (.int .i64 j)) (h0 : 0 ≤ i) (h1 : i ≤ j) (h2 : j ≤ s.size) :
    Ex P e ⟨some d, .slice xt x (some a) (some b) none, T, pos, af, none⟩ (.string (s.extract i.toNat j.toNat)) := fun c hc w => by
  have h := run_slice_string (P := P) w xt s .i64 .i64 i j ht h0 h1 h2
  simp only [execOp, hc _ _ hx, Option.map_some, hc _ _ hlo, hc _ _ hhi, Option.map_none]
  simp [run_sliceAt_string w xt _ _ _ _ ht, h]
theorem Ops.cutS {xt : TypeId} {x a b : Operand} {s : ByteArray} {i j : Int} (hx : ev e x = some (.string s)) (ht : P.underlying xt = some .string) (hlo : ev e a = some (.int .i64 i)) (hhi : ev e b = some (.int .i64 j)) (h0 : 0 ≤ i) (h1 : i ≤ j) (h2 : j ≤ s.size) (hn : Nat.blt d n.size = true)
    (h : Ops P n Qf k ops rest ((d, .string (s.extract i.toNat j.toNat)) :: e) w) : Ops P n Qf k ops (⟨some d, .slice xt x (some a) (some b) none, T, pos, af, none⟩ :: rest) e w := Ops.ex (Ex.cutS hx ht hlo hhi h0 h1 h2) rfl rfl hn h
theorem ExS.g {S : World → Prop} {dst : Option Tmp} {op : Op} {gu : Nat × Bool} {v : Value} (h : ExS P S e ⟨dst, op, T, pos, af, none⟩ v) : ExS P S e ⟨dst, op, T, pos, af, some gu⟩ v := fun ρ hρ w hS => by
  rw [← h ρ hρ w hS]
  cases op <;> rfl
/-- What a cut yields may be read. -/
theorem Rd.cutv {A : Option Addr} {sz m c : Nat} {xs : List Value} (h : Rd w sz (.slice A m c) m xs) (i j : Nat) (hij : i ≤ j) (hj : j ≤ m) (hmc : m ≤ c) : Rd w sz (.slice (if c = i then A else A.map (·.add (i * sz))) (j - i) (c - i)) (j - i) ((xs.drop (i * sz)).take ((j - i) * sz)) :=
  h.sub i j (c - i) hij hj (by omega) _ (by split; exact .inr ⟨rfl, by omega⟩; exact .inl rfl)
/-- The first so many bytes. -/
theorem Rd.pre {A : Option Addr} {m c : Nat} {xs : List Value} (h : Rd w 1 (.slice A m c) m xs) (j : Nat) (hj : j ≤ m) (hmc : m ≤ c) : Rd w 1 (.slice (if c = 0 then A else A.map (·.add (0 * 1))) j c) j (xs.take j) := by
  have := h.cutv 0 j (Nat.zero_le _) hj hmc
  simpa using this
/-- One element of many cells. -/
theorem Rd.elem {g o sz m c i : Nat} {xs cs : List Value} (h : Rd w sz (.slice (some ⟨g, o, none⟩) m c) m xs) (hi : (xs.drop (i * sz)).take sz = cs) : ∀ j v, cs[j]? = some v → w.cell? ((⟨g, o + i * sz, none⟩ : Addr).add j) = some v := by
  intro j v hj
  have h1 : xs[i * sz + j]? = some v := by
    rw [← hi, List.getElem?_take] at hj
    split at hj
    · rw [List.getElem?_drop] at hj
      exact hj
    · cases hj
  rw [addr_lit rfl]
  have := h.cell h1
  rw [show o + i * sz + j = o + (i * sz + j) from by omega]
  exact this
theorem Rd.nil {sz : Nat} : Rd w sz (.slice none 0 0) 0 [] := ⟨by simp, fun _ h => (by cases h), none, 0, rfl, Nat.le_refl _, .inl ⟨rfl, rfl⟩⟩
end Go.Proofs.YtiekoeapmhhjbaaGreatDoor.Sx
