/- Part B of the second layer: operations on memory by lists. -/
import Derived.Test.YtiekoeapmhhjbaaGreatDoorGnA
namespace Go.Proofs.YtiekoeapmhhjbaaGreatDoor.Sx
open Go Go.RowKit
set_option linter.unusedVariables false
set_option linter.unusedSimpArgs false
section
variable {P : Program} {n : Fm} {Qf : Exit → Act → World → Prop} {k : List It} {e : Env} {w w' w0 : World} {H : List Res} {R R0 : Res} {ζ ζ' : Zp} {ops : Array Oper} {rest : List Oper} {T : TypeId} {pos : String} {af : Array Edge} {d : Nat}
theorem St.push2 {F0 : Nat → Prop} (hst : St w0 F0 (R0 :: H) w) (hw : Fr w w' (fun _ => False)) (hp' : R.p (hp w')) (hS : ∀ k, R.S k → w.heap.size ≤ k ∧ k < w'.heap.size) : St w0 F0 (R0 :: R :: H) w' :=
  (hst.push hw hp' hS).perm (by rw [List.cons_append]; exact List.Perm.cons _ List.perm_append_comm)
theorem perm_erase {α : Type} : ∀ {H : List α} {i : Nat} {R : α}, H[i]? = some R → (R :: H.eraseIdx i).Perm H
  | _ :: _, 0, _, h => by simp at h; subst h; exact List.Perm.refl _
  | A :: H, i + 1, R, h => by
    simp at h
    exact (List.Perm.swap A R _).trans (List.Perm.cons A (perm_erase h))
  | [], _, _, h => by simp at h
theorem St.up {F0 : Nat → Prop} (hst : St w0 F0 H w) (i : Nat) (hi : H[i]? = some R) : St w0 F0 (R :: H.eraseIdx i) w :=
  hst.perm (perm_erase hi).symm
theorem St.swap {F0 : Nat → Prop} {A B : Res} (hst : St w0 F0 (A :: B :: H) w) : St w0 F0 (B :: A :: H) w := hst.perm (List.Perm.swap _ _ _)
theorem St.dropTail {F0 : Nat → Prop} (hst : St w0 F0 (R :: H) w) : St w0 F0 H w := hst.sub (List.sublist_cons_self _ _)
theorem St.forget {F0 : Nat → Prop} (hst : St w0 F0 H w) (i : Nat) : St w0 F0 (H.eraseIdx i) w := hst.sub (List.eraseIdx_sublist _ _)
theorem zc_hp {g o : Nat} : zc (hp w) g o = w.cell? ⟨g, o, none⟩ := rfl
theorem St.rdc (hst : Ht w0 (frz ζ :: H) w) {g o : Nat} {u : Value} (h : zc ζ g o = some u) : w.cell? ⟨g, o, none⟩ = some u := by
  have hf : Le ζ (hp w) := hst.get (i := 0) rfl
  exact zc_mono hf h
theorem St.le (hst : Ht w0 (frz ζ :: H) w) : Le ζ (hp w) := hst.get (i := 0) rfl
theorem cells_of_zc {h : Zp} {g o : Nat} {cs : List Value} (hw : h = hp w) (hz : Zc h g o cs) : ∀ j v, cs[j]? = some v → w.cell? ((⟨g, o, none⟩ : Addr).add j) = some v := by
  intro j v hj
  rw [addr_lit rfl]
  subst hw
  exact hz j v hj
theorem Zc.part {h : Zp} {g o : Nat} {cs : List Value} (hz : Zc h g o cs) (j m : Nat) : Zc h g (o + j) ((cs.drop j).take m) := by
  intro i u hi
  rw [List.getElem?_take] at hi
  split at hi
  · rw [List.getElem?_drop] at hi
    have := hz _ _ hi
    rwa [← Nat.add_assoc] at this
  · cases hi
/-! ### New blocks -/
theorem Ops.allocF {t : TypeId} {z : Value} (cs : List Value) (hst : Ht w0 (R0 :: H) w) (hz : (P.info? t).map (·.zero) = some (some z)) (hcs : z.cells = cs.toArray) (hn : Nat.blt d n.size = true)
    (h : ∀ g w', Ht w0 (R0 :: blk g cs t :: H) w' → Ops P n Qf k ops rest ((d, .pointer (some ⟨g, 0, none⟩)) :: e) w') : Ops P n Qf k ops (⟨some d, .alloc t, T, pos, af, none⟩ :: rest) e w :=
  Ops.alloc cs hst hz hcs hn (fun g w' h' _ => h g w' (h'.perm (by rw [List.cons_append]; exact List.Perm.cons _ List.perm_append_comm)))
theorem Ops.boxF {t : TypeId} {x : Operand} {v : Value} (cs : List Value) (hst : Ht w0 (R0 :: H) w) (hx : ev e x = some v) (hcs : v.cells = cs.toArray) (hn : Nat.blt d n.size = true)
    (h : ∀ g w', Ht w0 (R0 :: blk g cs t :: H) w' → Ops P n Qf k ops rest ((d, .pointer (some ⟨g, 0, none⟩)) :: e) w') : Ops P n Qf k ops (⟨some d, .box t x, T, pos, af, none⟩ :: rest) e w :=
  Ops.box cs hst hx hcs hn (fun g w' h' _ => h g w' (h'.perm (by rw [List.cons_append]; exact List.Perm.cons _ List.perm_append_comm)))
theorem Ops.sliceF {t et : TypeId} {len sz : Nat} {parts : Array (Nat × Operand)} (cs : List Value) {z : Value} {m : List (Nat × Value)} (hst : Ht w0 (R0 :: H) w) (hm : evs e parts.toList = some m) (ht : P.underlying t = some (.slice et)) (hs : (P.info? et).map (·.size) = some sz) (hz : (P.info? et).map (·.zero) = some (some z))
    (hb : Nat.ble (len * sz) 16777216 = true) (h0 : Nat.beq (len * sz) 0 = false) (hf : Instr.fill (fun i => some (i * sz, sz)) ((Array.range (len * sz)).map (z.cells[· % z.cells.size]!)) m = some cs.toArray) (hl : cs.length = len * sz) (h1 : ∀ u ∈ cs, u.oneCell' = true) (hn : Nat.blt d n.size = true)
    (h : ∀ A w', Ht w0 (R0 :: orow et sz (.slice A len len) len cs :: H) w' → Ops P n Qf k ops rest ((d, .slice A len len) :: e) w') : Ops P n Qf k ops (⟨some d, .buildSlice t len parts, T, pos, af, none⟩ :: rest) e w :=
  Ops.buildSlice cs hst hm ht hs hz hb h0 hf hn (fun g w' h' _ => h _ w' (by
    have h2 := h'.perm (H' := R0 :: blk g cs et :: H) (by rw [List.cons_append]; exact List.Perm.cons _ List.perm_append_comm)
    have hl' : len ≤ maxLen := by
      have hb' := Nat.le_of_ble_eq_true hb
      have h0' : len * sz ≠ 0 := fun h => by rw [h] at h0; simp at h0
      have : len ≤ len * sz := Nat.le_mul_of_pos_right _ (Nat.pos_of_ne_zero (fun h => h0' (by rw [h]; rfl)))
      simp only [maxLen]; omega
    exact St.ownOf h2 1 rfl hl hl' h1))
/-- A literal without elements. -/
theorem Ops.sliceE {t et : TypeId} {sz : Nat} (hst : Ht w0 (R0 :: H) w) (ht : P.underlying t = some (.slice et)) (hs : (P.info? et).map (·.size) = some sz) (hn : Nat.blt d n.size = true)
    (h : ∀ A w', Ht w0 (R0 :: orow et sz (.slice A 0 0) 0 [] :: H) w' → Ops P n Qf k ops rest ((d, .slice A 0 0) :: e) w') : Ops P n Qf k ops (⟨some d, .buildSlice t 0 #[], T, pos, af, none⟩ :: rest) e w := by
  refine Ops.val (w' := w.alloc (.cells #[] et)) rfl rfl hn (fun c hcc => ?_) (h (some ⟨w.heap.size, 0, none⟩) _ ?_)
  · simp only [execOp, Instr.buildSlice]
    rw [Sem.run_bind, Sem.run_bind, run_underlying ht]
    simp only [Result.andThen_ok]
    rw [Sem.run_bind, Sx.run_sizeOf hs]
    have hr : (Array.range 0).map (fun _ : Nat => (default : Value)) = #[] := by simp [Array.range]
    simp [Instr.fill, newRow]
    first | rfl | (congr 1; first | exact congrArg (fun a => Obj.cells a et) hr | simp [Array.range])
  · have h2 := (hst.new [] et).perm (H' := R0 :: blk w.heap.size [] et :: H) (by rw [List.cons_append]; exact List.Perm.cons _ List.perm_append_comm)
    exact St.ownOf (l := 0) h2 1 rfl (by simp) (Nat.zero_le _) (by intro u hu; cases hu)
/-! ### Slices that stand still, and rows of one's own -/
variable {α : Type}
/-- A slice whose cells lie in h. -/
def SlH (τ : Ty α) (ζ h : Zp) (A : Option Addr) (c : Nat) (xs : List α) : Prop :=
  xs.length ≤ c ∧ c ≤ maxLen ∧ ∃ cells, Cs τ ζ cells xs ∧ (xs = [] ∨ ∃ g o, A = some ⟨g, o, none⟩ ∧ Zc h g o cells)
theorem Sl.toH {τ : Ty α} {A : Option Addr} {c : Nat} {xs : List α} (h : Sl τ ζ A c xs) : SlH τ ζ ζ A c xs := h
theorem Sl.at_ {τ : Ty α} {A : Option Addr} {c : Nat} {xs : List α} (h : Sl τ ζ A c xs) (hst : Ht w0 (frz ζ :: H) w) : SlH τ ζ (hp w) A c xs := by
  obtain ⟨h1, h2, cells, h3, h4⟩ := h
  refine ⟨h1, h2, cells, h3, ?_⟩
  rcases h4 with h4 | ⟨g, o, rfl, h4⟩
  · exact .inl h4
  · exact .inr ⟨g, o, rfl, h4.mono hst.le⟩
theorem SlH.rd {τ : Ty α} {A : Option Addr} {c : Nat} {xs : List α} (h : SlH τ ζ (hp w) A c xs) : ∃ news, Cs τ ζ news xs ∧ Rd w τ.sz (.slice A xs.length c) xs.length news := by
  obtain ⟨h1, h2, cells, h3, h4⟩ := h
  refine ⟨cells, h3, h3.len, h3.one, A, c, rfl, h1, ?_⟩
  rcases h4 with rfl | ⟨g, o, rfl, h4⟩
  · have hc0 : cells = [] := List.eq_nil_of_length_eq_zero (by simpa using h3.len)
    subst hc0
    cases A with
    | none => exact .inl ⟨rfl, rfl⟩
    | some ad => exact .inr ⟨ad, rfl, fun h => absurd h (Nat.lt_irrefl 0), fun j u hj => by simp at hj⟩
  · exact .inr ⟨_, rfl, fun _ => rfl, fun j u hj => h4 j u hj⟩
theorem own_slh {τ : Ty α} {E c : Nat} {A : Option Addr} {xs : List α} {cells : List Value} {h : Zp} (hC : Cs τ ζ cells xs) {l : Nat} (hl : xs.length = l) (hp : (orow E τ.sz (.slice A l c) l cells).p h) : SlH τ ζ h A c xs := by
  subst hl
  obtain ⟨h1, h2, h3⟩ := hp
  rcases h3 with ⟨he, hl⟩ | ⟨g, o, cap, cur, he, hg, hc, hm, hsz, ht⟩
  · simp only [Value.slice.injEq] at he
    obtain ⟨rfl, -, rfl⟩ := he
    exact ⟨Nat.le_of_eq hl, Nat.zero_le _, cells, hC, .inl (List.eq_nil_of_length_eq_zero hl)⟩
  · simp only [Value.slice.injEq] at he
    obtain ⟨rfl, -, rfl⟩ := he
    refine ⟨hc, hm, cells, hC, .inr ⟨g, o, rfl, fun j u hj => ?_⟩⟩
    have hcj : cur[o + j]? = some u := by
      rw [← ht, List.getElem?_take] at hj
      split at hj
      · simpa using hj
      · cases hj
    simp [zc, hg, hcj]
theorem slice_of_own {τ : Ty α} {A : Option Addr} {c E : Nat} {xs : List α} {cells : List Value} (hC : Cs τ ζ cells xs) {h : Zp} (hp0 : (orow E τ.sz (.slice A xs.length c) xs.length cells).p h) : SlH τ ζ h A c xs := own_slh hC rfl hp0
/-- append to a row of one's own. -/
theorem Ops.app {args : Array Operand} {tys : Array TypeId} {τ : Ty α} {A A2 : Option Addr} {c c2 E by_ : Nat} {x y : Operand} {t : TypeId} {z : Value} {xs ys zs : List α} {cells : List Value} (i : Nat) (hst : Ht w0 H w) {l l2 : Nat} (hi : H[i]? = some (orow E τ.sz (.slice A l c) l cells)) (hC : Cs τ ζ cells xs) (hl0 : xs.length = l) (hs : SlH τ ζ (hp w) A2 c2 ys) (hl2 : ys.length = l2)
    (hap : apB by_ xs ys = some zs) (ha : args = #[x, y]) (hty : tys = #[t, t]) (hx : ev e x = some (.slice A l c)) (hy : ev e y = some (.slice A2 l2 c2))
    (ht : P.underlying t = some (.slice E)) (hinfo : (P.info? E).map (fun i => (i.zero, i.size, i.bytes)) = some (some z, τ.sz, by_)) (hzs : z.cells.size = τ.sz) (hsz : 0 < τ.sz) (hb : 0 < by_) (hn : Nat.blt d n.size = true)
    (h : ∀ A' c' cells' w', Cs τ ζ cells' zs → Ht w0 (H.set i (orow E τ.sz (.slice A' zs.length c') zs.length cells')) w' → Ops P n Qf k ops rest ((d, .slice A' zs.length c') :: e) w') : Ops P n Qf k ops (⟨some d, .call ⟨.builtin .append, args, tys⟩, T, pos, af, none⟩ :: rest) e w := by
  subst hl0 hl2
  obtain ⟨hbd, rfl⟩ := apB_some hap
  obtain ⟨news, hC2, hrd⟩ := hs.rd
  have h63 : xs.length + ys.length ≤ maxLen := by
    have : xs.length + ys.length ≤ (xs.length + ys.length) * by_ := Nat.le_mul_of_pos_right _ hb
    simp only [maxLen]; omega
  refine Ops.append i hst hi ha hty hx hy ht hinfo hzs hsz hrd h63 hbd hn (fun v' w' hst' _ => ?_)
  have hlt : i < H.length := by
    rcases Nat.lt_or_ge i H.length with h' | h'
    · exact h'
    · rw [List.getElem?_eq_none h'] at hi; cases hi
  have hg := hst'.get (i := i) (by rw [List.getElem?_set_self hlt])
  have hshape : ∃ A' c', v' = .slice A' (xs.length + ys.length) c' := by
    obtain ⟨_, _, h3⟩ := hg
    rcases h3 with ⟨rfl, h0⟩ | ⟨g, o, cap, cur, rfl, _⟩
    · rw [h0]; exact ⟨_, _, rfl⟩
    · exact ⟨_, _, rfl⟩
  obtain ⟨A', c', rfl⟩ := hshape
  have hl : (xs ++ ys).length = xs.length + ys.length := List.length_append
  have := h A' c' (cells ++ news) w' (hC.append hC2) (by rw [hl]; exact hst')
  rw [hl] at this
  exact this
theorem splice_pre {pre cs tl vs : List Value} {off : Nat} (hroom : off + vs.length ≤ cs.length) :
    (pre ++ (cs ++ tl)).take (pre.length + off) ++ vs ++ (pre ++ (cs ++ tl)).drop (pre.length + off + vs.length) = (pre ++ (cs ++ tl)).take pre.length ++ (cs.take off ++ vs ++ cs.drop (off + vs.length)) ++ (pre ++ (cs ++ tl)).drop (pre.length + cs.length) := by
  rw [Nat.add_assoc, List.take_length_add_append, List.drop_length_add_append, List.drop_length_add_append, List.take_left, List.drop_left, List.take_append_of_le_length (by omega), List.drop_append_of_le_length (by omega)]
  simp
theorem splice_mid {cells cs vs : List Value} {k off : Nat} (hcs : ∀ j u, cs[j]? = some u → cells[k + j]? = some u) (hroom : off + vs.length ≤ cs.length) (hk : k ≤ cells.length) :
    cells.take (k + off) ++ vs ++ cells.drop (k + off + vs.length) = cells.take k ++ (cs.take off ++ vs ++ cs.drop (off + vs.length)) ++ cells.drop (k + cs.length) := by
  have h1 : (cells.drop k).take cs.length = cs := by
    apply List.ext_getElem?
    intro j
    rw [List.getElem?_take]
    by_cases hj : j < cs.length
    · rw [if_pos hj, List.getElem?_drop, List.getElem?_eq_getElem hj]
      exact hcs j _ (List.getElem?_eq_getElem hj)
    · rw [if_neg hj, List.getElem?_eq_none (by omega)]
  obtain ⟨tl, htl⟩ : ∃ tl, cells.drop k = cs ++ tl := ⟨(cells.drop k).drop cs.length, by conv => lhs; rw [← List.take_append_drop cs.length (cells.drop k), h1]⟩
  obtain ⟨pre, hpre⟩ : ∃ pre, pre = cells.take k := ⟨_, rfl⟩
  have hlk : pre.length = k := by rw [hpre, List.length_take]; omega
  have e0 : cells = pre ++ (cs ++ tl) := by rw [← htl, hpre, List.take_append_drop]
  have := splice_pre (pre := pre) (tl := tl) hroom
  rw [← e0, hlk] at this
  exact this
/-- A store into an element of a row of one's own. -/
theorem Ops.storeN {τ : Ty α} {A : Option Addr} {c E l g p o off zt : Nat} {xs ys : List α} {cells cs vs cs' : List Value} {x y : Operand} {t : TypeId} {i : Int} {a : α} {v : Value} (k' : Nat) (hst : Ht w0 H w) (hi : H[k']? = some (orow E τ.sz (.slice A l c) l cells)) (hC : Cs τ ζ cells xs) (hl : xs.length = l)
    (hA : A = some ⟨g, p, none⟩) (ho : o = p + i.toNat * τ.sz) (hput : putI xs i a = some ys) (hcs : ∀ h, (orow E τ.sz (.slice A l c) l cells).p h → Zc h g o cs) (hcl : cs.length = τ.sz) (hR : τ.R ζ cs' a) (hcs' : cs' = cs.take off ++ vs ++ cs.drop (off + vs.length))
    (hx : ev e x = some (.pointer (some ⟨g, o + off, none⟩))) (hy : ev e y = some v) (hv : v.cells = vs.toArray) (hz : (P.info? t).map (·.size) = some zt) (hvl : vs.length = zt) (h1 : ∀ u ∈ vs, u.oneCell' = true) (hroom : off + vs.length ≤ cs.length)
    (h : ∀ cells' w', Cs τ ζ cells' ys → ys.length = l → Ht w0 (H.set k' (orow E τ.sz (.slice A l c) l cells')) w' → Ops P n Qf k ops rest e w') : Ops P n Qf k ops (⟨none, .store t x y, T, pos, af, none⟩ :: rest) e w := by
  obtain ⟨h0, hlt, rfl⟩ := putI_some hput
  subst hl ho hA
  have hg0 := hst.get hi
  obtain ⟨q1, q2, q3⟩ := hg0
  rcases q3 with ⟨he, _⟩ | ⟨g', o', cap, cur, he, hg', hc', hm', hsz, ht'⟩
  · cases he
  · cases he
    have hg : w.heap[g]? = some (.cells cur E (0, 0)) := hg'
    have hcell : ∀ j u, cs[j]? = some u → cells[i.toNat * τ.sz + j]? = some u := by
      intro j u hj
      have h2 := hcs (hp w) (hst.get hi) j u hj
      have h3 : cur[p + i.toNat * τ.sz + j]? = some u := by simpa [zc, hg'] using h2
      rw [← ht', List.getElem?_take]
      have hjl : j < cs.length := by
        rcases Nat.lt_or_ge j cs.length with h' | h'
        · exact h'
        · rw [List.getElem?_eq_none h'] at hj; cases hj
      have hil : i.toNat * τ.sz + τ.sz ≤ xs.length * τ.sz := by
        have := Nat.mul_le_mul_right τ.sz (show i.toNat + 1 ≤ xs.length by omega)
        rwa [Nat.add_mul, Nat.one_mul] at this
      rw [if_pos (by omega), List.getElem?_drop]
      simpa [Nat.add_assoc] using h3
    have hcap : xs.length * τ.sz ≤ c * τ.sz := Nat.mul_le_mul_right _ hc'
    have hil : i.toNat * τ.sz + τ.sz ≤ xs.length * τ.sz := by
      have := Nat.mul_le_mul_right τ.sz (show i.toNat + 1 ≤ xs.length by omega)
      rwa [Nat.add_mul, Nat.one_mul] at this
    have hrun := run_storeCells_at (P := P) g (p + i.toNat * τ.sz + off) E vs 0 cur w hg (by omega) h1
    rw [Nat.add_zero] at hrun
    obtain ⟨cur', hcur'⟩ : ∃ c', c' = (cur.toList.take (p + i.toNat * τ.sz + off) ++ vs ++ cur.toList.drop (p + i.toNat * τ.sz + off + vs.length)).toArray := ⟨_, rfl⟩
    have hcl1 := hC.len
    refine Ops.unit (w' := w.setRow g cur') rfl rfl (fun cc hcc => ?_) (h (cells.take (i.toNat * τ.sz) ++ cs' ++ cells.drop (i.toNat * τ.sz + cs'.length)) _ (hC.set hR (by omega)) (by simp) ?_)
    · simp only [execOp, hcc _ _ hx, hcc _ _ hy, Instr.storeAt, Instr.sureAddr]
      have hs : v.cells.size = zt := by rw [hv]; simpa using hvl
      have hl' : v.cells.toList = vs := by rw [hv]
      simp only [storeVar, hl']
      rw [hcur']
      simp [Sx.run_sizeOf hz, hs, hrun]
    · have hcs'l : cs'.length = cs.length := by rw [hcs']; simp; omega
      refine hst.upd k' hi ⟨rfl, rfl, rfl, by simp, fun k hk hne => setRow_other w g k _ (fun he => hne (by simp [orow, Value.ownBlock, he]))⟩ ?_ (fun k hk => ⟨.inl hk, by have := hst.lt hi hk; simpa using this⟩)
      have hnew : (cells.take (i.toNat * τ.sz) ++ cs' ++ cells.drop (i.toNat * τ.sz + cs'.length)) = cells.take (i.toNat * τ.sz + off) ++ vs ++ cells.drop (i.toNat * τ.sz + off + vs.length) := by
        rw [splice_mid hcell hroom (by omega), ← hcs', hcs'l]
      rw [hnew]
      refine ⟨?_, ?_, .inr ⟨g, p, c, cur', rfl, setRow_heap w g cur _ E (0, 0) hg, hc', hm', ?_, ?_⟩⟩
      · simp only [List.length_append, List.length_take, List.length_drop]; omega
      · intro u hu
        rcases List.mem_append.1 hu with hu | hu
        · rcases List.mem_append.1 hu with hu | hu
          · exact q2 u (List.mem_of_mem_take hu)
          · exact h1 u hu
        · exact q2 u (List.mem_of_mem_drop hu)
      · rw [hcur']; simp only [List.size_toArray, List.length_append, List.length_take, List.length_drop, Array.length_toList]; omega
      · rw [hcur']
        simp only []
        have hpl : p ≤ cur.toList.length := by simp; omega
        have e0 : p ≤ (cur.toList.take (p + i.toNat * τ.sz + off)).length := by simp; omega
        rw [List.append_assoc, List.drop_append_of_le_length e0, List.drop_take, ← ht']
        have e1 : p + i.toNat * τ.sz + off - p = i.toNat * τ.sz + off := by omega
        rw [e1]
        have e2 : ∀ q, cur.toList.drop (p + q) = (cur.toList.drop p).drop q := fun q => by rw [List.drop_drop]
        rw [show p + i.toNat * τ.sz + off + vs.length = p + (i.toNat * τ.sz + off + vs.length) by omega, e2]
        obtain ⟨D, hD⟩ : ∃ D, D = cur.toList.drop p := ⟨_, rfl⟩
        rw [← hD]
        have hDl : xs.length * τ.sz ≤ D.length := by rw [hD]; simp; omega
        rw [List.take_take, Nat.min_eq_left (by omega), ← List.append_assoc, List.take_append]
        have e3 : (D.take (i.toNat * τ.sz + off) ++ vs).length = i.toNat * τ.sz + off + vs.length := by simp; omega
        rw [List.take_of_length_le (by rw [e3]; omega), e3, List.drop_take]
/-- A new row, empty. -/
theorem St.row0 (hst : Ht w0 (R0 :: H) w) (E sz : Nat) : Ht w0 (R0 :: orow E sz (.slice none 0 0) 0 [] :: H) w :=
  St.push2 hst (Fr.refl _ _) (own_nil E sz _) (fun k hk => by cases hk)
/-! ### What stands still from here on -/
theorem St.freezeS (hst : Ht w0 (frz ζ :: R :: H) w) : ∃ ζ', Le ζ ζ' ∧ (∀ k, R.S k → ζ' k = hp w k) ∧ Ht w0 (frz ζ' :: H) w := by
  classical
  refine ⟨fun k => if R.S k then hp w k else ζ k, fun k o hk => ?_, fun k hk => by simp [hk], ?_⟩
  · have : ¬ R.S k := by
      have hd := (List.pairwise_cons.1 hst.dis).1 R (by simp) k
      exact hd (by simp [frz, hk])
    simp [this, hk]
  · have h1 : ∀ k o, (if R.S k then hp w k else ζ k) = some o → hp w k = some o := by
      intro k o hk
      split at hk
      · exact hk
      · exact hst.le k o hk
    refine ⟨hst.fr, fun Q hQ k hk => ?_, fun Q hQ => ?_, ?_⟩
    · rcases List.mem_cons.1 hQ with rfl | hQ
      · refine ⟨.inl trivial, ?_⟩
        have hk' : (if R.S k then hp w k else ζ k).isSome = true := hk
        obtain ⟨o, ho⟩ := Option.isSome_iff_exists.1 hk'
        have := h1 k o ho
        rcases Nat.lt_or_ge k w.heap.size with h' | h'
        · exact h'
        · have : w.heap[k]? = none := by simp [h']
          rw [show hp w k = w.heap[k]? from rfl] at *
          simp_all
      · exact hst.own Q (by simp [hQ]) k hk
    · rcases List.mem_cons.1 hQ with rfl | hQ
      · exact h1
      · exact hst.hold Q (by simp [hQ])
    · have hd := List.pairwise_cons.1 hst.dis
      have hd2 := List.pairwise_cons.1 hd.2
      refine List.pairwise_cons.2 ⟨fun Q hQ k hk hk' => ?_, hd2.2⟩
      have hk2 : (if R.S k then hp w k else ζ k).isSome = true := hk
      split at hk2
      · rename_i hR
        exact hd2.1 Q hQ k hR hk'
      · exact hd.1 Q (by simp [hQ]) k hk2 hk'
theorem St.freeze {τ : Ty α} {A : Option Addr} {c E l : Nat} {xs : List α} {cells : List Value} (hst : Ht w0 (frz ζ :: orow E τ.sz (.slice A l c) l cells :: H) w) (hC : Cs τ ζ cells xs) (hl0 : xs.length = l) : ∃ ζ', Le ζ ζ' ∧ Sl τ ζ' A c xs ∧ Ht w0 (frz ζ' :: H) w := by
  subst hl0
  have hp0 := hst.get (i := 1) rfl
  obtain ⟨ζ', hl, he, h'⟩ := hst.freezeS
  refine ⟨ζ', hl, ?_, h'⟩
  have hp1 : (orow E τ.sz (.slice A xs.length c) xs.length cells).p ζ' := (orow E τ.sz (.slice A xs.length c) xs.length cells).loc _ _ (fun k hk => he k hk) hp0
  exact own_slh (hC.mono hl) rfl hp1
theorem St.freezeB {g : Nat} {cs : List Value} {Tb : TypeId} (hst : Ht w0 (frz ζ :: blk g cs Tb :: H) w) : ∃ ζ', Le ζ ζ' ∧ Zc ζ' g 0 cs ∧ Ht w0 (frz ζ' :: H) w := by
  have hp0 := hst.get (i := 1) rfl
  obtain ⟨ζ', hl, he, h'⟩ := hst.freezeS
  refine ⟨ζ', hl, fun j u hj => ?_, h'⟩
  rw [Nat.zero_add]
  have h1 : ζ' g = some (.cells cs.toArray Tb (0, 0)) := (he g rfl).trans hp0
  simp [zc, h1, hj]
/-- A row of one's own is lent: it stands still for a while. -/
theorem St.lend {τ : Ty α} {A : Option Addr} {c E l : Nat} {xs : List α} {cells : List Value} (hst : Ht w0 (frz ζ :: orow E τ.sz (.slice A l c) l cells :: H) w) (hC : Cs τ ζ cells xs) (hl0 : xs.length = l) :
    ∃ ζ', Le ζ ζ' ∧ Sl τ ζ' A c xs ∧ Ht w0 (frz ζ' :: H) w ∧ ∀ ζ2 H2 w2, Le ζ' ζ2 → Ht w0 (frz ζ2 :: H2) w2 → ∃ ζ3, Le ζ ζ3 ∧ Ht w0 (frz ζ3 :: orow E τ.sz (.slice A l c) l cells :: H2) w2 := by
  subst hl0
  have hp0 := hst.get (i := 1) rfl
  have hdis0 := (List.pairwise_cons.1 hst.dis).1 _ (List.mem_cons_self ..)
  obtain ⟨ζ', hl, he, h'⟩ := hst.freezeS
  have hp1 : (orow E τ.sz (.slice A xs.length c) xs.length cells).p ζ' := (orow E τ.sz (.slice A xs.length c) xs.length cells).loc _ _ (fun k hk => he k hk) hp0
  refine ⟨ζ', hl, own_slh (hC.mono hl) rfl hp1, h', fun ζ2 H2 w2 hl2 hst2 => ?_⟩
  classical
  obtain ⟨R, hR⟩ : ∃ R, R = orow E τ.sz (.slice A xs.length c) xs.length cells := ⟨_, rfl⟩
  rw [← hR] at hp1 hdis0 he hp0 ⊢
  have hin : ∀ k, R.S k → ∃ o, ζ' k = some o := by
    intro k hk
    have hlt := hst.lt (i := 1) (R := R) (by rw [hR]; rfl) hk
    have : hp w k = some (w.heap[k]'hlt) := by simp [hp, hlt]
    exact ⟨_, (he k hk).trans this⟩
  refine ⟨fun k => if R.S k then none else ζ2 k, fun k o hk => ?_, ?_⟩
  · have : ¬ R.S k := hdis0 k (by simp [frz, hk])
    simp only [this, if_false]
    exact hl2 _ _ (hl _ _ hk)
  · have hpR : R.p (hp w2) := by
      refine R.loc ζ' _ (fun k hk => ?_) hp1
      obtain ⟨o, ho⟩ := hin k hk
      rw [ho]
      exact hst2.le _ _ (hl2 _ _ ho)
    have hltR : ∀ k, R.S k → k < w2.heap.size := by
      intro k hk
      obtain ⟨o, ho⟩ := hin k hk
      exact (hst2.own (frz ζ2) (by simp) k (by simp [frz, hl2 _ _ ho])).2
    have hd := List.pairwise_cons.1 hst2.dis
    have hz2 : ∀ k, R.S k → (frz ζ2).S k := fun k hk => by
      obtain ⟨o, ho⟩ := hin k hk
      simp [frz, hl2 _ _ ho]
    refine ⟨hst2.fr, fun Q hQ k hk => ⟨.inl trivial, ?_⟩, fun Q hQ => ?_, ?_⟩
    · rcases List.mem_cons.1 hQ with rfl | hQ
      · have hk' : (if R.S k then none else ζ2 k).isSome = true := hk
        split at hk'
        · cases hk'
        · exact (hst2.own (frz ζ2) (by simp) k hk').2
      · rcases List.mem_cons.1 hQ with rfl | hQ
        · exact hltR k hk
        · exact (hst2.own Q (by simp [hQ]) k hk).2
    · rcases List.mem_cons.1 hQ with rfl | hQ
      · intro k o hk
        have hk : (if R.S k then none else ζ2 k) = some o := hk
        split at hk
        · cases hk
        · exact hst2.le _ _ hk
      · rcases List.mem_cons.1 hQ with rfl | hQ
        · exact hpR
        · exact hst2.hold Q (by simp [hQ])
    · refine List.pairwise_cons.2 ⟨fun Q hQ k hk hk' => ?_, List.pairwise_cons.2 ⟨fun Q hQ k hk hk' => ?_, hd.2⟩⟩
      · have hk2 : (if R.S k then none else ζ2 k).isSome = true := hk
        split at hk2
        · cases hk2
        · rename_i hn
          rcases List.mem_cons.1 hQ with rfl | hQ
          · exact hn hk'
          · exact hd.1 Q hQ k hk2 hk'
      · exact hd.1 Q hQ k (hz2 k hk) hk'
end
/-! ### Results -/
/-- What the results are, one by one. -/
def ResV (P : Program) (e : Env) (w : World) : List ResultVar → List Value → Prop
  | [], [] => True
  | .tmp t :: r, v :: vs => Sx.look e t = some v ∧ ResV P e w r vs
  | .cell a t :: r, v :: vs => (∃ ad, Sx.look e a = some (.pointer (some ad)) ∧ (loadVar t ad).run P w = .ok v w) ∧ ResV P e w r vs
  | _, _ => False
def rv (tmps : Array Value) : ResultVar → Sem Value
  | .tmp t => pure (tmps.getD t undef)
  | .cell a t => do loadVar t (← asAddr (tmps.getD a undef))
theorem run_rv_tmp {P : Program} {w : World} (tmps : Array Value) (t : Nat) : (rv tmps (.tmp t)).run P w = .ok (tmps.getD t undef) w := by simp [rv]
theorem run_rv_cell {P : Program} {w : World} (tmps : Array Value) (c : Nat) (t : TypeId) {ad : Addr} {v : Value} (h : tmps.getD c undef = .pointer (some ad)) (hl : (loadVar t ad).run P w = .ok v w) : (rv tmps (.cell c t)).run P w = .ok v w := by
  simp only [rv, h, asAddr, Sem.run_bind, Sem.run_pure, Result.andThen_ok]
  exact hl
theorem run_resList {P : Program} {n : Fm} {e : Env} {w : World} {a : Act} (ha : Has n e a) : ∀ {rs : List ResultVar} {vs : List Value}, ResV P e w rs vs → (rs.mapM (rv a.tmps)).run P w = .ok vs w
  | [], [], _ => by simp
  | .tmp t :: r, v :: vs, h => by
    have h1 := ha.getD h.1
    have h2 := run_resList ha h.2
    rw [List.mapM_cons, Sem.run_bind, run_rv_tmp, h1, Result.andThen_ok, Sem.run_bind, h2]
    simp
  | .cell c t :: r, v :: vs, h => by
    obtain ⟨ad, hl, hr⟩ := h.1
    have h1 := ha.getD hl
    have h2 := run_resList ha h.2
    rw [List.mapM_cons, Sem.run_bind, run_rv_cell _ _ _ h1 hr, Result.andThen_ok, Sem.run_bind, h2]
    simp
  | [], _ :: _, h => h.elim
  | .tmp _ :: _, [], h => h.elim
  | .cell _ _ :: _, [], h => h.elim
def tupV : List Value → Value
  | [v] => v
  | vs => .tuple vs.toArray
theorem run_resV {P : Program} {n : Fm} {e : Env} {w : World} {a : Act} {fn : Func} {vs : List Value} (h : ResV P e w fn.results.toList vs) (ha : Has n e a) : (results fn a.tmps).run P w = .ok (tupV vs) w := by
  have h1 := run_resList ha h
  have h0 : results fn a.tmps = (do let vs ← fn.results.mapM (rv a.tmps); pure (if h : vs.size = 1 then vs[0] else .tuple vs)) := by
    unfold results
    congr 2
  have h2 : (fn.results.mapM (rv a.tmps)).run P w = .ok vs.toArray w := by
    rw [Array.mapM_eq_mapM_toList]
    show ((List.mapM (rv a.tmps) fn.results.toList) >>= fun l => (pure l.toArray : Sem _)).run P w = _
    rw [Sem.run_bind, h1]
    simp
  rw [h0, Sem.run_bind, h2]
  simp only [Result.andThen_ok, Sem.run_pure]
  cases vs with
  | nil => rfl
  | cons v r => cases r <;> rfl
end Go.Proofs.YtiekoeapmhhjbaaGreatDoor.Sx
