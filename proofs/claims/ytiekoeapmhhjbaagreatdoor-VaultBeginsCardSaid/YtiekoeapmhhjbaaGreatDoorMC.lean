/- The interpreter is sound: operations on memory. -/
import Derived.Test.YtiekoeapmhhjbaaGreatDoorMB
/- The interpreter is sound, part I: operations with two operands, with one, as the interpreter runs them. -/
namespace Go.Proofs.YtiekoeapmhhjbaaGreatDoor.X
open Go
set_option linter.unusedVariables false
set_option linter.unusedSimpArgs false
variable {c : Ctx} {Γ Γ' : Gm} {m m' : M} {w w' : World} {ρ : Operand → Value} {e : En} {Q : Program}
theorem plain_of {t : TypeId} {x y : Value} (h1 : binOp .eql t x y = (do pure (.bool (← Op.equal t x y)))) (h2 : binOp .neq t x y = (do pure (.bool (!(← Op.equal t x y))))) : Plain Q t x y := by
  refine ⟨fun w => ?_, fun w => ?_⟩
  · rw [h1]; simp
  · rw [h2]; simp
section
variable {t : TypeId} (d : Nat)
theorem eq_pp {el : TypeId} (hu : Q.underlying t = some (.pointer el)) : (Op.equalIn (d + 1) t (.pointer none) (.pointer none)).run Q w = .ok true w := by simp [Op.equalIn, run_underlying hu]
theorem eq_ap {el : TypeId} {a : Addr} (hu : Q.underlying t = some (.pointer el)) : (Op.equalIn (d + 1) t (.pointer (some a)) (.pointer none)).run Q w = .ok false w := by simp [Op.equalIn, run_underlying hu]
theorem eq_pa {el : TypeId} {a : Addr} (hu : Q.underlying t = some (.pointer el)) : (Op.equalIn (d + 1) t (.pointer none) (.pointer (some a))).run Q w = .ok false w := by simp [Op.equalIn, run_underlying hu]
theorem eq_ss {el : TypeId} {l k l' k' : Nat} {b : Option Addr} (hu : Q.underlying t = some (.slice el)) : (Op.equalIn (d + 1) t (.slice b l k) (.slice none l' k')).run Q w = .ok b.isNone w := by cases b <;> simp [Op.equalIn, run_underlying hu]
theorem eq_mm {ka el : TypeId} {r : Option Nat} (hu : Q.underlying t = some (.map ka el)) : (Op.equalIn (d + 1) t (.map r) (.map none)).run Q w = .ok r.isNone w := by cases r <;> simp [Op.equalIn, run_underlying hu]
theorem eq_ff {a b : Array TypeId} {vr : Bool} (hu : Q.underlying t = some (.func a b vr)) : (Op.equalIn (d + 1) t .nilFunc .nilFunc).run Q w = .ok true w := by simp [Op.equalIn, run_underlying hu]
theorem eq_gf {a b : Array TypeId} {vr : Bool} {f : Fn} {p q : Array Value} (hu : Q.underlying t = some (.func a b vr)) : (Op.equalIn (d + 1) t (.func f p q) .nilFunc).run Q w = .ok false w := by simp [Op.equalIn, run_underlying hu]
theorem eq_ii {ms : Array (String × TypeId)} (hu : Q.underlying t = some (.interface ms)) : (Op.equalIn (d + 1) t .nilIface .nilIface).run Q w = .ok true w := by simp [Op.equalIn, run_underlying hu]
theorem eq_xi {ms : Array (String × TypeId)} {t1 : TypeId} {x : Value} (hu : Q.underlying t = some (.interface ms)) : (Op.equalIn (d + 1) t (.iface t1 x) .nilIface).run Q w = .ok false w := by simp [Op.equalIn, run_underlying hu]
theorem eq_xy {ms : Array (String × TypeId)} {t1 t2 : TypeId} {x y : Value} (hu : Q.underlying t = some (.interface ms)) (h : t1 ≠ t2) : (Op.equalIn (d + 1) t (.iface t1 x) (.iface t2 y)).run Q w = .ok false w := by simp [Op.equalIn, run_underlying hu, h]
theorem eq_xx {ms : Array (String × TypeId)} {t1 : TypeId} {x y : Value} {i : TypeInfo} {r : Bool} (hu : Q.underlying t = some (.interface ms)) (hi : Q.info? t1 = some i) (hc : i.comparable = true) (h : (Op.equalIn d t1 x y).run Q w = .ok r w) :
    (Op.equalIn (d + 1) t (.iface t1 x) (.iface t1 y)).run Q w = .ok r w := by simp [Op.equalIn, run_underlying hu, typeInfo, hi, hc, h]
end
theorem addR_ok {op : BinOp} {lo hi b n : Nat} {k : IntKind} {v : V} {t : TypeId} (ho : isAdd op = true) (h1 : lo ≤ n) (h2 : n ≤ hi) (h : addR k lo hi b = some v) :
    ∃ z, DV c.ν Γ v z ∧ (∀ w, (binOp op t (.int k (k.wrap n)) (.int k (k.wrap b))).run Q w = .ok z w) ∧ ∀ w, (binOp op t (.int k (k.wrap b)) (.int k (k.wrap n))).run Q w = .ok z w := by
  unfold addR at h
  rw [bi_eq] at h
  obtain ⟨h3, h4⟩ := h
  cases h4
  have hp : ∀ m, m ≤ Nat.add hi b → k.wrap m = m := fun m hm => wrap_pos (posI_of h3 hm)
  have e1 : k.wrap n = n := hp n (by show n ≤ hi + b; omega)
  have e2 : k.wrap b = b := hp b (by show b ≤ hi + b; omega)
  have e3 : k.wrap ((n + b : Nat) : Int) = ((n + b : Nat) : Int) := hp (n + b) (by show n + b ≤ hi + b; omega)
  cases op <;> first | (cases ho; done) | skip
  refine ⟨.int k ((n + b : Nat) : Int), ?_, fun w => ?_, fun w => ?_⟩
  · rw [DV]
    exact ⟨n + b, by show lo + b ≤ n + b; omega, by show n + b ≤ hi + b; omega, by rw [e3]⟩
  · rw [e1, e2]
    have e4 : k.wrap ((n : Int) + (b : Int)) = (n : Int) + (b : Int) := by rw [← Int.natCast_add]; exact e3
    simp [binOp, Op.intArith, e4]
  · rw [e1, e2]
    have e4 : k.wrap ((b : Int) + (n : Int)) = (n : Int) + (b : Int) := by rw [Int.add_comm, ← Int.natCast_add]; exact e3
    simp [binOp, Op.intArith, e4]
theorem xBinS_ok (hE : EqTs Q) {op : BinOp} {t : TypeId} {xo yo : Operand} {cst : Bool} {x y : V} {X Y : Value} {v : V} (hx : DV c.ν Γ x X) (hy : DV c.ν Γ y Y) (hc : cst = true → (isC xo = true ∨ isC yo = true)) (h : xBinS Q op t cst x y = some v) :
    ∃ z, DV c.ν Γ v z ∧ ∀ w, (do eqGuard op t xo yo X Y; binOp op t X Y : Sem Value).run Q w = .ok z w := by
  have plain : ∀ {X Y : Value}, (∀ a b, ¬ (X = .agg a ∧ Y = .agg b)) → ¬ (X = .nilIface ∧ Y = .nilIface) → (∃ z, DV c.ν Γ v z ∧ ∀ w, (binOp op t X Y).run Q w = .ok z w) → ∃ z, DV c.ν Γ v z ∧ ∀ w, (do eqGuard op t xo yo X Y; binOp op t X Y : Sem Value).run Q w = .ok z w := by
    intro X Y h1 h2 ⟨z, h3, h4⟩
    exact ⟨z, h3, fun w => by rw [Sem.run_bind, run_guard_no h1 h2 w]; exact h4 w⟩
  unfold xBinS at h
  split at h
  · rename_i a b
    rw [dv_str hx, dv_str hy]
    refine plain (by rintro _ _ ⟨h, _⟩; cases h) (by rintro ⟨h, _⟩; cases h) ?_
    exact strOp_ok h
  · rename_i k lo hi q b
    rw [bi_eq] at h
    obtain ⟨h1, h⟩ := h
    have := kn_inj h1
    subst this
    obtain ⟨n, hn1, hn2, rfl⟩ := dv_rng hx
    rw [dv_int hy]
    cases ha : isAdd op with
    | true =>
      rw [ha, bi_t] at h
      obtain ⟨z, k1, k2, _⟩ := addR_ok (c := c) (Γ := Γ) (Q := Q) (t := t) ha hn1 hn2 h
      exact plain (by rintro _ _ ⟨h, _⟩; cases h) (by rintro ⟨h, _⟩; cases h) ⟨z, k1, k2⟩
    | false =>
    rw [ha, bi_f, bi_eq, bi_eq, bi_eq] at h
    obtain ⟨h2, h3, h4, h5⟩ := h
    exact plain (by rintro _ _ ⟨h, _⟩; cases h) (by rintro ⟨h, _⟩; cases h) (rngOp_ok h2 h3 h4 hn1 hn2 h5)
  · rename_i q b k lo hi
    rw [bi_eq] at h
    obtain ⟨h1, h⟩ := h
    have := kn_inj h1
    subst this
    obtain ⟨n, hn1, hn2, rfl⟩ := dv_rng hy
    rw [dv_int hx]
    cases ha : isAdd op with
    | true =>
      rw [ha, bi_t] at h
      obtain ⟨z, k1, _, k2⟩ := addR_ok (c := c) (Γ := Γ) (Q := Q) (t := t) ha hn1 hn2 h
      exact plain (by rintro _ _ ⟨h, _⟩; cases h) (by rintro ⟨h, _⟩; cases h) ⟨z, k1, k2⟩
    | false =>
    rw [ha, bi_f, bi_eq, bi_eq, bi_eq] at h
    obtain ⟨h2, h3, h4, h5⟩ := h
    exact plain (by rintro _ _ ⟨h, _⟩; cases h) (by rintro ⟨h, _⟩; cases h) (gnrOp_ok h2 h3 h4 hn1 hn2 h5)
  · rename_i i y
    have h1 := (dv_opq hx).2
    exact plain (by rintro a b ⟨rfl, _⟩; cases h1) (by rintro ⟨rfl, rfl⟩; exact symBin_nil (v := v) (op := op) hy (.inl h)) (symBin_ok hx hy h)
  · rename_i i _
    have h1 := (dv_opq hy).2
    exact plain (by rintro a b ⟨_, rfl⟩; cases h1) (by rintro ⟨rfl, rfl⟩; exact symBin_nil (v := v) (op := op) hx (.inr h)) (symBin_ok hx hy h)
  · have eq_ : ∀ {X Y : Value} {b : Bool}, eqOp op b = some v → (∀ a b, ¬ (X = .agg a ∧ Y = .agg b)) → ¬ (X = .nilIface ∧ Y = .nilIface) → Plain Q t X Y → (∀ w, (Op.equalIn 10000 t X Y).run Q w = .ok b w) →
        ∃ z, DV c.ν Γ v z ∧ ∀ w, (do eqGuard op t xo yo X Y; binOp op t X Y : Sem Value).run Q w = .ok z w :=
      fun h h1 h2 hp hs => cmp_ok h hp (run_guard_no h1 h2) hs
    split at h
    · rename_i a b hk _ _ _ _ _
      have hu : Q.underlying t = some .bool := kdT_of hk (by simp)
      rw [dv_bool hx, dv_bool hy]
      refine eq_ h (by rintro _ _ ⟨h, _⟩; cases h) (by rintro ⟨h, _⟩; cases h) (plain_of rfl rfl) (fun w => ?_)
      rw [run_equalIn_bool w 9999 t a b hu, eqBo_eq]
    · rename_i l xs ys hk _ _ _ _ _
      obtain ⟨fs, hu, hm, hf⟩ := kdT_of hk (by simp)
      rw [bi_eq, bi_eq, ob_eq] at h
      obtain ⟨l1, l2, r, hr, h⟩ := h
      rw [Nat.beq_eq, lenV_eq] at l1 l2
      obtain ⟨Xs, hX, _, rfl⟩ := dv_agg hx
      obtain ⟨Ys, hY, _, rfl⟩ := dv_agg hy
      have hst := hE t hm
      exact cmp_ok h (plain_of rfl rfl) (fun w => run_eqGuard_agg w op t xo yo _ _ hst.2) (fun w => eqSt hf hu hst.1 hX hY hr l1 l2 9997 w)
    · rename_i hk _ _ _ _ _
      obtain ⟨el, hu⟩ := kdT_of hk (by simp)
      rw [dv_nilP hx, dv_nilP hy]
      exact eq_ h (by rintro _ _ ⟨h, _⟩; cases h) (by rintro ⟨h, _⟩; cases h) (plain_of rfl rfl) (fun w => eq_pp 9999 hu)
    · rename_i hk _ _ _ _ _
      obtain ⟨el, hu⟩ := kdT_of hk (by simp)
      obtain ⟨g, _, rfl⟩ := dv_ptr hx
      rw [dv_nilP hy]
      exact eq_ h (by rintro _ _ ⟨h, _⟩; cases h) (by rintro ⟨h, _⟩; cases h) (plain_of rfl rfl) (fun w => eq_ap 9999 hu)
    · rename_i hk _ _ _ _ _
      obtain ⟨el, hu⟩ := kdT_of hk (by simp)
      obtain ⟨g, _, rfl⟩ := dv_ptr hy
      rw [dv_nilP hx]
      exact eq_ h (by rintro _ _ ⟨h, _⟩; cases h) (by rintro ⟨h, _⟩; cases h) (plain_of rfl rfl) (fun w => eq_pa 9999 hu)
    · rename_i hk _ _ _ _ _
      obtain ⟨el, hu⟩ := kdT_of hk (by simp)
      rw [dv_nilS hx, dv_nilS hy]
      exact eq_ h (by rintro _ _ ⟨h, _⟩; cases h) (by rintro ⟨h, _⟩; cases h) (plain_of rfl rfl) (fun w => eq_ss 9999 hu)
    · rename_i hk _ _ _ _ _
      obtain ⟨el, hu⟩ := kdT_of hk (by simp)
      obtain ⟨g, p, _, _, rfl⟩ := dv_slice hx
      rw [dv_nilS hy]
      exact eq_ h (by rintro _ _ ⟨h, _⟩; cases h) (by rintro ⟨h, _⟩; cases h) (plain_of rfl rfl) (fun w => eq_ss 9999 hu)
    · rename_i hk _ _ _ _ _
      obtain ⟨el, hu⟩ := kdT_of hk (by simp)
      obtain ⟨a, p, _, rfl⟩ := dv_emp hx
      rw [dv_nilS hy]
      exact eq_ h (by rintro _ _ ⟨h, _⟩; cases h) (by rintro ⟨h, _⟩; cases h) (plain_of rfl rfl) (fun w => eq_ss 9999 hu)
    · rename_i hk _ _ _ _ _
      obtain ⟨ka, el, hu⟩ := kdT_of hk (by simp)
      rw [dv_nilM hx, dv_nilM hy]
      exact eq_ h (by rintro _ _ ⟨h, _⟩; cases h) (by rintro ⟨h, _⟩; cases h) (plain_of rfl rfl) (fun w => eq_mm 9999 hu)
    · rename_i hk _ _ _ _ _
      obtain ⟨ka, el, hu⟩ := kdT_of hk (by simp)
      obtain ⟨g, _, rfl⟩ := dv_map hx
      rw [dv_nilM hy]
      exact eq_ h (by rintro _ _ ⟨h, _⟩; cases h) (by rintro ⟨h, _⟩; cases h) (plain_of rfl rfl) (fun w => eq_mm 9999 hu)
    · rename_i hk _ _ _ _ _
      obtain ⟨ka, el, vr, hu⟩ := kdT_of hk (by simp)
      rw [dv_nilF hx, dv_nilF hy]
      exact eq_ h (by rintro _ _ ⟨h, _⟩; cases h) (by rintro ⟨h, _⟩; cases h) (plain_of rfl rfl) (fun w => eq_ff 9999 hu)
    · rename_i hk _ _ _ _ _
      obtain ⟨ka, el, vr, hu⟩ := kdT_of hk (by simp)
      obtain ⟨ys, zs, _, _, rfl⟩ := dv_func hx
      rw [dv_nilF hy]
      exact eq_ h (by rintro _ _ ⟨h, _⟩; cases h) (by rintro ⟨h, _⟩; cases h) (plain_of rfl rfl) (fun w => eq_gf 9999 hu)
    · rename_i t1 k a t2 q b hk _ _ _ _ _
      obtain ⟨ms, hu⟩ := kdT_of hk (by simp)
      obtain ⟨X, hX, rfl⟩ := dv_iface hx
      obtain ⟨Y, hY, rfl⟩ := dv_iface hy
      rw [dv_int hX, dv_int hY]
      cases ht : Nat.beq t1 t2 with
      | false =>
        rw [ht, bi_f] at h
        have hne : t1 ≠ t2 := fun he => by rw [he, Nat.beq_refl] at ht; cases ht
        exact eq_ h (by rintro _ _ ⟨h, _⟩; cases h) (by rintro ⟨h, _⟩; cases h) (plain_of rfl rfl) (fun w => eq_xy 9999 hu hne)
      | true =>
        rw [ht, bi_t, bi_eq, bi_eq] at h
        obtain ⟨h1, h2, h3⟩ := h
        rw [Nat.beq_eq] at ht
        subst ht
        have := kn_inj h2
        subst this
        unfold cmpT at h1
        cases hi : Q.info? t1 with
        | none => rw [hi] at h1; cases h1
        | some i =>
          rw [hi] at h1
          have h4 : bi i.comparable (match Q.underlying t1 with
            | some (.int _) => true
            | _ => false) false = true := h1
          cases hcp : i.comparable with
          | false => rw [hcp] at h4; cases h4
          | true =>
            rw [hcp, bi_t] at h4
            obtain ⟨k2, hu1⟩ : ∃ k2, Q.underlying t1 = some (.int k2) := by
              cases hq : Q.underlying t1 with
              | none => rw [hq] at h4; cases h4
              | some u => rw [hq] at h4; cases u <;> first | exact ⟨_, rfl⟩ | (cases h4; done)
            exact eq_ h3 (by rintro _ _ ⟨h, _⟩; cases h) (by rintro ⟨h, _⟩; cases h) (plain_of rfl rfl) (fun w => by
              rw [eqI_iff]
              exact eq_xx 9999 hu hi hcp (run_equalIn_int w 9998 t1 k k2 _ _ hu1))
    · rename_i hk _ _ _ _ _
      obtain ⟨ms, hu⟩ := kdT_of hk (by simp)
      rw [bi_eq] at h
      rw [dv_nilI hx, dv_nilI hy]
      exact cmp_ok h.2 (plain_of rfl rfl) (run_guard_nil (hc h.1)) (fun w => eq_ii 9999 hu)
    · rename_i hk _ _ _ _ _
      obtain ⟨ms, hu⟩ := kdT_of hk (by simp)
      obtain ⟨X, hX, rfl⟩ := dv_iface hx
      rw [dv_nilI hy]
      exact eq_ h (by rintro _ _ ⟨h, _⟩; cases h) (by rintro ⟨h, _⟩; cases h) (plain_of rfl rfl) (fun w => eq_xi 9999 hu)
    · cases h
theorem xBin_ok (hE : EqTs Q) {op : BinOp} {t : TypeId} {xo yo : Operand} {cst : Bool} {x y : V} {X Y : Value} {K : V → A} (hx : DV c.ν Γ x X) (hy : DV c.ν Γ y Y) (hc : cst = true → (isC xo = true ∨ isC yo = true)) (h : Yes (xBin Q op t cst x y K none)) :
    ∃ v z, DV c.ν Γ v z ∧ Yes (K v) ∧ ∀ w, (do eqGuard op t xo yo X Y; binOp op t X Y : Sem Value).run Q w = .ok z w := by
  have slow : Yes (oc (xBinS Q op t cst x y) none K) → ∃ v z, DV c.ν Γ v z ∧ Yes (K v) ∧ ∀ w, (do eqGuard op t xo yo X Y; binOp op t X Y : Sem Value).run Q w = .ok z w := fun h => by
    obtain ⟨v, hv, hy'⟩ := yes_oc h
    obtain ⟨z, hz, hrun⟩ := xBinS_ok hE hx hy hc hv
    exact ⟨v, z, hz, hy', hrun⟩
  unfold xBin at h
  cases x with
  | int k a =>
    cases y with
    | int q b =>
      have h2 : Yes (Nat.rec (motive := fun _ => A) (bi (Nat.beq (kn k) (kn q)) (intOp op k a b K none) none) (fun s _ => shOp (s + 1) k a q b K none) (shN op)) := h
      rw [dv_int hx, dv_int hy]
      have fin : (∃ v z, DV c.ν Γ v z ∧ Yes (K v) ∧ ∀ w, (binOp op t (.int k (k.wrap a)) (.int q (q.wrap b))).run Q w = .ok z w) → ∃ v z, DV c.ν Γ v z ∧ Yes (K v) ∧ ∀ w, (do eqGuard op t xo yo (.int k (k.wrap a)) (.int q (q.wrap b)); binOp op t (.int k (k.wrap a)) (.int q (q.wrap b)) : Sem Value).run Q w = .ok z w := by
        rintro ⟨v, z, h1, h3, h4⟩
        exact ⟨v, z, h1, h3, fun w => by rw [Sem.run_bind, run_guard_no (by rintro _ _ ⟨h, _⟩; cases h) (by rintro ⟨h, _⟩; cases h) w]; exact h4 w⟩
      refine fin ?_
      cases hs : shN op with
      | zero =>
        rw [hs] at h2
        obtain ⟨h3, h4⟩ := yes_bi h2
        have := kn_inj h3
        subst this
        exact intOp_ok hs h4
      | succ s =>
        rw [hs] at h2
        exact shOp_ok hs h2
    | _ => exact slow h
  | _ => exact slow h
theorem OpOK.binOp (hE : EqTs P) (op : BinOp) (t : TypeId) (x y : Operand) (u : TypeId) : OpOK c (.binOp op t x y u) := fun e m K Γ w ρ dst T pos af gu hR hρ h => by
  have h' : Yes (xBin P op t (bi (isC x) true (isC y)) (ev x e) (ev y e) (fun v => K v m) none) := h
  have hc : bi (isC x) true (isC y) = true → (isC x = true ∨ isC y = true) := fun h => by
    cases hq : isC x with
    | true => exact .inl rfl
    | false => rw [hq, bi_f] at h; exact .inr h
  obtain ⟨v, z, h1, h2, h3⟩ := xBin_ok hE (hρ x) (hρ y) hc h'
  refine Out.pure hR h2 h1 ?_
  have h4 := h3 w
  simp only [execOp]
  rw [Sem.run_bind] at h4 ⊢
  rw [Sem.run_bind]
  simp only [Result.andThen] at h4 ⊢
  rw [h4]
  rfl
theorem OpOK.unOp (op : UnOp) (t : TypeId) (x : Operand) : OpOK c (.unOp op t x) := fun e m K Γ w ρ dst T pos af gu hR hρ h => by
  have h' : Yes (ovm (xUn op (ev x e)) m K) := h
  obtain ⟨v, hv, hy⟩ := yes_ovm h'
  have hx := hρ x
  have fin : ∀ {z : Value}, DV c.ν Γ v z → (Op.unary op (ρ x)).run P w = .ok z w → Out c Γ ⟨dst, .unOp op t x, T, pos, af, gu⟩ ρ w K := fun hz h => Out.pure hR hy hz (by simp [execOp, h])
  unfold xUn at hv
  split at hv
  · rename_i b hb
    cases hv
    rw [hb] at hx
    rw [dv_bool hx] at fin
    exact fin (by rw [notB_eq]; exact mk_bool) (by simp [Op.unary])
  · rename_i k a hb
    cases hv
    rw [hb] at hx
    rw [dv_int hx] at fin
    exact fin (mk_int (wrap_neg k a)) (by simp [Op.unary, Op.intArith])
  · rename_i k a hb
    cases hv
    rw [hb] at hx
    rw [dv_int hx] at fin
    refine fin (mk_int rfl) ?_
    simp only [Op.unary, Op.intBits]
    show Result.ok (Value.int k (k.wrap _)) w = _
    rw [BitVec.toNat_xor, bv_toNat]
    have e1 : (BitVec.ofInt k.bits (if k.signed = true then -1 else k.max)).toNat = modN k - 1 := by cases k <;> rfl
    rw [e1]
    rfl
  · cases hv
end Go.Proofs.YtiekoeapmhhjbaaGreatDoor.X
/- The interpreter is sound, part J: cells. -/
namespace Go.Proofs.YtiekoeapmhhjbaaGreatDoor.X
open Go Go.RowKit
set_option linter.unusedVariables false
set_option linter.unusedSimpArgs false
variable {c : Ctx} {Γ Γ' : Gm} {m m' : M} {w w' : World} {ρ : Operand → Value} {e : En} {Q : Program}
/-- A block that may be read. -/
def RdB (b : Blk) (n : Nat) (t : Cs) : Prop := (∃ T fz, b = .cells n t T fz) ∨ b = .tab n t
theorem onRead_eq {α : Type} {b : Blk} {K : Nat → Cs → α} {z : α} : (∃ n t, RdB b n t ∧ b.onRead K z = K n t) ∨ b.onRead K z = z := by
  cases b <;> first | exact .inr rfl | skip
  · exact .inl ⟨_, _, .inl ⟨_, _, rfl⟩, rfl⟩
  · exact .inl ⟨_, _, .inr rfl, rfl⟩
theorem RdB.ne {b : Blk} {n : Nat} {t : Cs} (h : RdB b n t) : b ≠ .dead := by
  rcases h with ⟨_, _, rfl⟩ | rfl <;> simp
/-- The cells of a block that is known. -/
theorem Rel.cells (h : Rel c Γ m w) {b n : Nat} {t : Cs} (hb : RdB (m.get b) n t) : ∃ g, Γ b = some g ∧ ∀ i, i < n → ∃ y, w.cell? ⟨g.blk, g.sh + i, none⟩ = some y ∧ y.oneCell' = true ∧ DV c.ν Γ (gC i t) y := by
  obtain ⟨g, hg, hk⟩ := h.hold b hb.ne
  refine ⟨g, hg, fun i hi => ?_⟩
  rcases hb with ⟨T, fz, hb⟩ | hb
  · rw [hb] at hk
    obtain ⟨A, T', fr, h1, _, _, _, _, h6⟩ := hk
    obtain ⟨y, h7, h8, h9⟩ := h6 i hi
    exact ⟨y, by simp [World.cell?, h1, h7], h8, h9⟩
  · rw [hb] at hk
    obtain ⟨A, T, fr, h1, h6⟩ := hk
    obtain ⟨y, h7, h8, h9⟩ := h6 i hi
    exact ⟨y, by simp [World.cell?, h1, h7], h8, h9⟩
theorem rd_inv {b o n : Nat} {l : List V} (h : rd m b o n = some l) : ∃ q t, RdB (m.get b) q t ∧ o + n ≤ q ∧ l = rdT t n o := by
  unfold rd rdK at h
  rcases onRead_eq (b := m.get b) (K := fun q t => bi (Nat.ble (Nat.add o n) q) (some (rdT t n o)) none) (z := (none : Option (List V))) with ⟨q, t, h1, h2⟩ | h2
  · rw [h2, bi_eq] at h
    obtain ⟨h3, h4⟩ := h
    cases h4
    rw [Nat.ble_eq] at h3
    exact ⟨q, t, h1, h3, rfl⟩
  · rw [h2] at h; cases h
theorem rdK_eq {α : Type} {b o n : Nat} {K : List V → α} {z : α} : rdK m b o n K z = oc (rd m b o n) z K := by
  unfold rd rdK
  cases m.get b <;> first | rfl | skip
  all_goals
    show bi _ _ _ = oc (bi _ _ _) z K
    cases Nat.ble (Nat.add o n) _ <;> rfl
/-- What is read of cells. -/
theorem rdT_ok {t : Cs} {a : Addr} (ha : a.spot = none) : ∀ (n o : Nat), (∀ i, o ≤ i → i < o + n → ∃ y, w.cell? ⟨a.block, a.off + i, none⟩ = some y ∧ y.oneCell' = true ∧ DV c.ν Γ (gC i t) y) →
    ∃ ys : List Value, DVL c.ν Γ (rdT t n o) ys ∧ (∀ y ∈ ys, y.oneCell' = true) ∧ ys.length = n ∧ ∀ j v, ys[j]? = some v → w.cell? ⟨a.block, a.off + (o + j), none⟩ = some v
  | 0, o, _ => ⟨[], DVL.nil, fun _ h => (by cases h), rfl, fun j v h => by simp at h⟩
  | n + 1, o, h => by
    obtain ⟨y, h1, h2, h3⟩ := h o (Nat.le_refl _) (by omega)
    obtain ⟨ys, h4, h5, h6, h7⟩ := rdT_ok ha n (o + 1) (fun i hi hi2 => h i (by omega) (by omega))
    refine ⟨y :: ys, DVL.cons h3 h4, fun z hz => ?_, by simp [h6], fun j v hj => ?_⟩
    · rcases List.mem_cons.1 hz with rfl | hz
      · exact h2
      · exact h5 z hz
    · cases j with
      | zero => simp at hj; subst hj; simpa using h1
      | succ j =>
        simp at hj
        have := h7 j v hj
        rw [show o + (j + 1) = o + 1 + j from by omega]
        exact this
theorem Rel.rd (h : Rel c Γ m w) {b o n : Nat} {l : List V} (hl : rd m b o n = some l) : ∃ g ys, Γ b = some g ∧ DVL c.ν Γ l ys ∧ (∀ y ∈ ys, y.oneCell' = true) ∧ ys.length = n ∧ ∀ j v, ys[j]? = some v → w.cell? ⟨g.blk, g.sh + o + j, none⟩ = some v := by
  obtain ⟨q, t, h1, h2, rfl⟩ := rd_inv hl
  obtain ⟨g, hg, hc⟩ := h.cells h1
  obtain ⟨ys, h3, h4, h5, h6⟩ := rdT_ok (c := c) (Γ := Γ) (w := w) (t := t) (a := ⟨g.blk, g.sh, none⟩) rfl n o (fun i _ hi => hc i (by omega))
  exact ⟨g, ys, hg, h3, h4, h5, fun j v hj => by rw [Nat.add_assoc]; exact h6 j v hj⟩
theorem ldT_one {t : TypeId} (h : ldT Q t = .one) : ∃ u, Q.underlying t = some u ∧ Sx.aggB u = false := by
  unfold ldT at h
  cases hu : Q.underlying t with
  | none => rw [hu] at h; cases h
  | some u =>
    rw [hu] at h
    cases u with
    | struct fs =>
      have h' : (match Q.info? t with | some i => Ld.agg i.size | none => .bad) = .one := h
      cases hi : Q.info? t <;> rw [hi] at h' <;> cases h'
    | array n el =>
      have h' : (match Q.info? t with | some i => Ld.agg i.size | none => .bad) = .one := h
      cases hi : Q.info? t <;> rw [hi] at h' <;> cases h'
    | _ => exact ⟨_, rfl, rfl⟩
theorem ldT_agg {t : TypeId} {n : Nat} (h : ldT Q t = .agg n) : ∃ u, Q.underlying t = some u ∧ Sx.aggB u = true ∧ (Q.info? t).map (·.size) = some n := by
  unfold ldT at h
  cases hu : Q.underlying t with
  | none => rw [hu] at h; cases h
  | some u =>
    rw [hu] at h
    cases u with
    | struct fs =>
      have h' : (match Q.info? t with | some i => Ld.agg i.size | none => .bad) = .agg n := h
      cases hi : Q.info? t <;> rw [hi] at h' <;> cases h'
      exact ⟨_, rfl, rfl, rfl⟩
    | array k el =>
      have h' : (match Q.info? t with | some i => Ld.agg i.size | none => .bad) = .agg n := h
      cases hi : Q.info? t <;> rw [hi] at h' <;> cases h'
      exact ⟨_, rfl, rfl, rfl⟩
    | _ => cases h
theorem add_lit (g o j : Nat) : (⟨g, o, none⟩ : Addr).add j = ⟨g, o + j, none⟩ := Sx.addr_add g o j
/-- A variable is loaded. -/
theorem load_ok (h : Rel c Γ m w) {t : TypeId} {b o : Nat} {K : V → A} (hy : Yes (loadK Q t m b o K none)) : ∃ v x g, Γ b = some g ∧ DV c.ν Γ v x ∧ Yes (K v) ∧ (loadVar t ⟨g.blk, g.sh + o, none⟩).run Q w = .ok x w := by
  unfold loadK at hy
  cases hl : ldT Q t with
  | bad => rw [hl] at hy; exact (yes_none hy).elim
  | one =>
    rw [hl] at hy
    obtain ⟨u, hu, ha⟩ := ldT_one hl
    have hy' : Yes ((m.get b).onRead (fun q t => bi (Nat.blt o q) (K (gC o t)) none) none) := hy
    rcases onRead_eq (b := m.get b) (K := fun q t => bi (Nat.blt o q) (K (gC o t)) none) (z := (none : A)) with ⟨q, tt, h1, h2⟩ | h2
    · rw [h2] at hy'
      obtain ⟨h3, h4⟩ := yes_bi hy'
      rw [Nat.blt_eq] at h3
      obtain ⟨g, hg, hc⟩ := h.cells h1
      obtain ⟨y, h5, h6, h7⟩ := hc o h3
      exact ⟨_, y, g, hg, h7, h4, Sx.run_load1 hu ha h5⟩
    · rw [h2] at hy'; exact (yes_none hy').elim
  | agg n =>
    rw [hl] at hy
    obtain ⟨u, hu, ha, hz⟩ := ldT_agg hl
    have hy' : Yes (rdK m b o n (fun l => K (.agg l)) none) := hy
    rw [rdK_eq] at hy'
    obtain ⟨l, hl2, h4⟩ := yes_oc hy'
    obtain ⟨g, ys, hg, h5, h6, h7, h8⟩ := h.rd hl2
    exact ⟨.agg l, .agg ys.toArray, g, hg, by rw [DV]; exact ⟨ys, h5, h6, rfl⟩, h4, Sx.run_loadN ys hu ha hz h7 (fun j v hj => by rw [add_lit]; exact h8 j v hj)⟩
theorem loadG_spec {t : TypeId} {x : Operand} {g : Nat} (h : loadG Q t x = some g) : x = .global g ∧ g < 2 ∧ ldT Q t = .one := by
  cases x with
  | global g' =>
    have h' : bi (Nat.blt g' 2) (Ld.rec (motive := fun _ => Option Nat) none (some g') (fun _ => none) (ldT Q t)) none = some g := h
    rw [bi_eq] at h'
    obtain ⟨h1, h2⟩ := h'
    rw [Nat.blt_eq] at h1
    cases hl : ldT Q t with
    | one =>
      rw [hl] at h2
      cases h2
      exact ⟨rfl, h1, rfl⟩
    | _ => rw [hl] at h2; cases h2
  | _ => cases h
theorem OpOK.load (t : TypeId) (x : Operand) : OpOK c (.load t x) := fun e m K Γ w ρ dst T pos af gu hR hρ h => by
  have e1 : cOp (.load t x) = Option.rec (motive := fun _ => Bx Op1) ⟨fun e m K => (ev x e).onPtr (fun b o => loadK P t m b o (fun v => K v m) none) none⟩ (fun g => ⟨fun _ m K => K (.opq (Nat.add 1000 g)) m⟩) (loadG P t x) := by kernel_rfl
  rw [e1] at h
  cases hg : loadG P t x with
  | some g =>
    rw [hg] at h
    have hy : Yes (K (.opq (1000 + g)) m) := h
    obtain ⟨rfl, hg2, hl⟩ := loadG_spec hg
    obtain ⟨u, hu, ha⟩ := ldT_one hl
    obtain ⟨A, T', fr, y, h1, h2, h4, h5⟩ := hR.gl g hg2
    have h3 := (hR.prot g _ h1).1
    have hx := hρ (.global g)
    have hev : ev (.global g) e = .ptr g 0 := by
      have e2 : ev (.global g) e = (cEv (.global g)).f e := bx _ _
      rw [e2]
      show bi (Nat.blt g 6) (V.ptr g 0) .any = .ptr g 0
      rw [show Nat.blt g 6 = true from by rw [Nat.blt_eq]; omega]
      rfl
    rw [hev] at hx
    obtain ⟨G', hG, hp⟩ := dv_ptr hx
    obtain ⟨N, hN⟩ := hR.glob g (by omega)
    rw [hN] at hG
    cases hG
    have hrun : (loadVar t ⟨g, 0 + 0, none⟩).run P w = .ok y w := Sx.run_load1 hu ha (by simp [World.cell?, h3, h2])
    have hp' : ρ (.global g) = .pointer (some ⟨g, 0 + 0, none⟩) := hp
    refine Out.pure (x := y) hR hy (by rw [DV]; exact ⟨h5, h4⟩) ?_
    simp only [execOp, Instr.loadAt, hp', Instr.sureAddr, Sem.run_bind, Sem.run_pure, Result.andThen_ok, hrun]
  | none =>
    rw [hg] at h
    have h' : Yes ((ev x e).onPtr (fun b o => loadK P t m b o (fun v => K v m) none) none) := h
    obtain ⟨b, o, hb, hy⟩ := yes_onPtr h'
    obtain ⟨v, z, g, hg, hz, hy, hrun⟩ := load_ok hR hy
    have hx := hρ x
    rw [hb] at hx
    obtain ⟨g', hg', hp⟩ := dv_ptr hx
    rw [hg] at hg'
    cases hg'
    exact Out.pure hR hy hz (by simp [execOp, Instr.loadAt, hp, Instr.sureAddr, hrun])
end Go.Proofs.YtiekoeapmhhjbaaGreatDoor.X
/- The interpreter is sound, part K: cells that are written; new variables. -/
namespace Go.Proofs.YtiekoeapmhhjbaaGreatDoor.X
open Go Go.RowKit
set_option linter.unusedVariables false
set_option linter.unusedSimpArgs false
variable {c : Ctx} {Γ Γ' : Gm} {m m' : M} {w w' : World} {ρ : Operand → Value} {e : En} {Q : Program}
theorem run_storeCells_fr (g o : Nat) (t : TypeId) (fr : Nat × Nat) : ∀ (vs : List Value) (i : Nat) (cur : Array Value) (w : World), w.heap[g]? = some (.cells cur t fr) → (∀ j, j < cur.size → ¬ (fr.1 ≤ j ∧ j < fr.2)) → o + i + vs.length ≤ cur.size → (∀ v ∈ vs, v.oneCell' = true) →
    (storeCells ⟨g, o, none⟩ vs i).run Q w = .ok () (w.setRow g (cur.toList.take (o + i) ++ vs ++ cur.toList.drop (o + i + vs.length)).toArray)
  | [], i, cur, w, hg, _, _, _ => by
    simp only [storeCells, List.append_nil, List.length_nil, Nat.add_zero, List.take_append_drop, Array.toArray_toList]
    rw [setRow_self w g cur t fr hg]
    rfl
  | v :: rest, i, cur, w, hg, hf, hl, h1 => by
    have hi : o + i < cur.size := by simp at hl; omega
    have hadd : (⟨g, o, none⟩ : Addr).add i = ⟨g, o + i, none⟩ := add_lit g o i
    have hcell : w.cell? ⟨g, o + i, none⟩ = some cur[o + i] := by simp [World.cell?, hg, hi]
    have hfro : w.frozen? ⟨g, o + i, none⟩ = false := by
      have := hf (o + i) hi
      simp only [World.frozen?, hg]
      rw [Bool.and_eq_false_iff, decide_eq_false_iff_not, decide_eq_false_iff_not]
      omega
    have hst : (store ((⟨g, o, none⟩ : Addr).add i) v).run Q w = .ok () (w.setRow g (cur.setIfInBounds (o + i) v)) := by
      rw [hadd, run_store Q w _ v _ (h1 v (by simp)), hcell]
      simp [hfro, setCell_eq_setRow w g (o + i) cur t fr v hg]
    have ih := run_storeCells_fr g o t fr rest (i + 1) (cur.setIfInBounds (o + i) v) (w.setRow g (cur.setIfInBounds (o + i) v)) (setRow_heap w g cur _ t _ hg) (fun j hj => hf j (by simpa using hj)) (by simp at hl ⊢; omega) (fun x hx => h1 x (by simp [hx]))
    simp only [storeCells, Sem.run_bind, hst, Result.andThen_ok, ih, setRow_setRow]
    congr 3
    have e := list_seg_step cur.toList (o + i) v rest (by simp at hl ⊢; omega)
    simpa [Array.toList_setIfInBounds, Nat.add_assoc] using e
theorem wrT_get : ∀ (vs : List V) (t : Cs) (o i : Nat), ((i < o ∨ o + vs.length ≤ i) → gC i (wrT vs t o) = gC i t) ∧ (∀ j v, vs[j]? = some v → gC (o + j) (wrT vs t o) = v ∨ gC (o + j) (wrT vs t o) = .any)
  | [], t, o, i => ⟨fun _ => rfl, fun j v h => by simp at h⟩
  | x :: r, t, o, i => by
    have hd : wrT (x :: r) t o = wrT r (uC o x t) (o + 1) := rfl
    rw [hd]
    refine ⟨fun h => ?_, fun j v h => ?_⟩
    · rw [(wrT_get r (uC o x t) (o + 1) i).1 (by simp at h; omega), gC_ne]
      rintro rfl
      simp at h
      omega
    · cases j with
      | zero =>
        simp at h
        subst h
        have := (wrT_get r (uC o x t) (o + 1) o).1 (.inl (Nat.lt_succ_self _))
        rw [Nat.add_zero, this]
        exact gC_same o x t
      | succ j =>
        simp at h
        have := (wrT_get r (uC o x t) (o + 1) i).2 j v h
        rw [show o + 1 + j = o + (j + 1) from by omega] at this
        exact this
theorem trOf_get {vs : List V} {i : Nat} {v : V} (h : vs[i]? = some v) : gC i (trOf vs) = v ∨ gC i (trOf vs) = .any := by
  have := (wrT_get vs cs0 0 i).2 i v h
  rwa [Nat.zero_add] at this
theorem wr_inv {b o : Nat} {vs : List V} (h : wr m b o vs = some m') : ∃ n t T fz, m.get b = .cells n t T fz ∧ o + vs.length ≤ n ∧ m' = m.put b (.cells n (wrT vs t o) T fz) := by
  unfold wr wrK at h
  cases hb : m.get b with
  | cells n t T fz =>
    rw [hb] at h
    have h' : bi (Nat.ble (Nat.add o (len vs)) n) (some (m.put b (.cells n (wrT vs t o) T fz))) none = some m' := h
    rw [bi_eq] at h'
    obtain ⟨h1, h2⟩ := h'
    cases h2
    rw [Nat.ble_eq, len_eq] at h1
    exact ⟨n, t, T, fz, rfl, h1, rfl⟩
  | _ => rw [hb] at h; cases h
theorem wrK_eq {α : Type} {b o : Nat} {vs : List V} {K : M → α} {z : α} : wrK m b o vs K z = oc (wr m b o vs) z K := by
  unfold wr wrK
  cases m.get b <;> first | rfl | skip
  show bi _ _ _ = oc (bi _ _ _) z K
  cases Nat.ble (Nat.add o (len vs)) _ <;> rfl
theorem ownB_cells {n : Nat} {t : Cs} {T : TypeId} {fz : Bool} : ownB (.cells n t T fz) := ⟨by simp, by simp⟩
theorem getElem_seg {A : Array Value} {ys : List Value} {k : Nat} (hk : k + ys.length ≤ A.size) (i : Nat) : (A.toList.take k ++ ys ++ A.toList.drop (k + ys.length)).toArray[i]? = if i < k then A[i]? else if i < k + ys.length then ys[i - k]? else A[i]? := by
  rw [List.getElem?_toArray, List.append_assoc]
  have hl : (A.toList.take k).length = k := by simp; omega
  by_cases h1 : i < k
  · rw [if_pos h1, List.getElem?_append_left (by omega), List.getElem?_take_of_lt h1, Array.getElem?_toList]
  · rw [if_neg h1, List.getElem?_append_right (by omega), hl]
    by_cases h2 : i < k + ys.length
    · rw [if_pos h2, List.getElem?_append_left (by omega)]
    · rw [if_neg h2, List.getElem?_append_right (by omega), List.getElem?_drop, Array.getElem?_toList]
      congr 1
      omega
/-- Cells are written. -/
theorem Rel.wr (h : Rel c Γ m w) {b o : Nat} {vs : List V} {ys : List Value} (hw : wr m b o vs = some m') (hv : DVL c.ν Γ vs ys) (h1 : ∀ y ∈ ys, y.oneCell' = true) :
    ∃ g w', Γ b = some g ∧ Rel c Γ m' w' ∧ ∀ Q : Program, (storeCells ⟨g.blk, g.sh + o, none⟩ ys).run Q w = .ok () w' := by
  obtain ⟨n, t, T, fz, hb, hn, rfl⟩ := wr_inv hw
  have hlen := hv.length
  obtain ⟨g, hg, hk⟩ := h.hold b (by rw [hb]; simp)
  have hk0 := hk
  rw [hb] at hk
  obtain ⟨A, T', fr, hA, hsz, hnN, hfz, hfr, hcs⟩ := hk
  have hfit : g.sh + o + ys.length ≤ A.size := by omega
  refine ⟨g, w.setRow g.blk (A.toList.take (g.sh + o) ++ ys ++ A.toList.drop (g.sh + o + ys.length)).toArray, hg, ?_, fun Q => ?_⟩
  · refine h.put hg (by rw [hb]; exact ownB_cells) rfl rfl rfl (by simp) (fun j hj => setRow_other w g.blk j _ hj) ?_
    refine ⟨_, T', fr, setRow_heap w g.blk A _ T' fr hA, ?_, hnN, hfz, fun i hi => hfr i ?_, fun i hi => ?_⟩
    · simp only [List.size_toArray, List.length_append, List.length_take, List.length_drop, Array.length_toList]
      omega
    · simp only [List.size_toArray, List.length_append, List.length_take, List.length_drop, Array.length_toList] at hi
      omega
    · obtain ⟨y, h2, h3, h4⟩ := hcs i hi
      rw [getElem_seg (by omega)]
      by_cases hio : i < o
      · rw [if_pos (by omega), (wrT_get vs t o i).1 (.inl hio)]
        exact ⟨y, h2, h3, h4⟩
      · rw [if_neg (by omega)]
        by_cases hi2 : i < o + vs.length
        · rw [if_pos (by omega)]
          have hj : i - o < vs.length := by omega
          obtain ⟨z, hz, hvz⟩ := hv.get (i := i - o) (v := vs[i - o]) (List.getElem?_eq_getElem hj)
          refine ⟨z, by rw [show g.sh + i - (g.sh + o) = i - o from by omega]; exact hz, h1 z (List.mem_of_getElem? hz), ?_⟩
          have := (wrT_get vs t o i).2 (i - o) vs[i - o] (List.getElem?_eq_getElem hj)
          rw [show o + (i - o) = i from by omega] at this
          rcases this with e1 | e1
          · rw [e1]; exact hvz
          · rw [e1, DV]; trivial
        · rw [if_neg (by omega), (wrT_get vs t o i).1 (.inr (by omega))]
          exact ⟨y, h2, h3, h4⟩
  · exact run_storeCells_fr g.blk (g.sh + o) T' fr ys 0 A w hA hfr (by simpa using hfit) h1
/-- A value's cells. -/
theorem cellsV_ok {v : V} {x : Value} {vs : List V} (h : cellsV v = some vs) (hv : DV c.ν Γ v x) : ∃ ys, DVL c.ν Γ vs ys ∧ (∀ y ∈ ys, y.oneCell' = true) ∧ x.cells = ys.toArray := by
  have one_ : vs = [v] → x.oneCell' = true → x.cells = #[x] → ∃ ys, DVL c.ν Γ vs ys ∧ (∀ y ∈ ys, y.oneCell' = true) ∧ x.cells = ys.toArray := by
    rintro rfl h1 h2
    exact ⟨[x], DVL.cons hv DVL.nil, fun y hy => by simp at hy; rw [hy]; exact h1, h2⟩
  cases v with
  | any => cases h
  | tup vs => cases h
  | agg cs =>
    cases h
    obtain ⟨ys, h1, h2, rfl⟩ := dv_agg hv
    exact ⟨ys, h1, h2, rfl⟩
  | bool b => cases h; rw [dv_bool hv] at one_ ⊢; exact one_ rfl rfl rfl
  | int k n => cases h; rw [dv_int hv] at one_ ⊢; exact one_ rfl rfl rfl
  | rng k a b => cases h; obtain ⟨n, _, _, rfl⟩ := dv_rng hv; exact one_ rfl rfl rfl
  | str s => cases h; rw [dv_str hv] at one_ ⊢; exact one_ rfl rfl rfl
  | ptr b o => cases h; obtain ⟨g, _, rfl⟩ := dv_ptr hv; exact one_ rfl rfl rfl
  | nilP => cases h; rw [dv_nilP hv] at one_ ⊢; exact one_ rfl rfl rfl
  | slice b o l k => cases h; obtain ⟨g, p, _, _, rfl⟩ := dv_slice hv; exact one_ rfl rfl rfl
  | nilS => cases h; rw [dv_nilS hv] at one_ ⊢; exact one_ rfl rfl rfl
  | emp z => cases h; obtain ⟨a, p, _, rfl⟩ := dv_emp hv; exact one_ rfl rfl rfl
  | map r => cases h; obtain ⟨g, _, rfl⟩ := dv_map hv; exact one_ rfl rfl rfl
  | nilM => cases h; rw [dv_nilM hv] at one_ ⊢; exact one_ rfl rfl rfl
  | func f a d => cases h; obtain ⟨ys, zs, _, _, rfl⟩ := dv_func hv; exact one_ rfl rfl rfl
  | yld l => cases h; obtain ⟨g, _, rfl⟩ := dv_yld hv; exact one_ rfl rfl rfl
  | nilF => cases h; rw [dv_nilF hv] at one_ ⊢; exact one_ rfl rfl rfl
  | iface t u => cases h; obtain ⟨y, _, rfl⟩ := dv_iface hv; exact one_ rfl rfl rfl
  | nilI => cases h; rw [dv_nilI hv] at one_ ⊢; exact one_ rfl rfl rfl
  | opq i =>
    cases h
    have hv' := hv
    rw [DV] at hv'
    refine one_ rfl hv'.2 ?_
    cases x <;> first | rfl | (cases hv'.2; done)
theorem szT_eq {t : TypeId} {n : Nat} (h : szT Q t = some n) : (Q.info? t).map (·.size) = some n := by
  unfold szT at h
  cases hi : Q.info? t with
  | none => rw [hi] at h; cases h
  | some i => rw [hi] at h; cases h; rfl
theorem store_ok (h : Rel c Γ m w) {t : TypeId} {b o : Nat} {v : V} {x : Value} {K : M → A} (hv : DV c.ν Γ v x) (hy : Yes (storeK Q t m b o v K none)) : ∃ m' w' g, Γ b = some g ∧ Rel c Γ m' w' ∧ Yes (K m') ∧ (storeVar t ⟨g.blk, g.sh + o, none⟩ x).run Q w = .ok () w' := by
  unfold storeK at hy
  obtain ⟨n, hn, hy⟩ := yes_oc hy
  obtain ⟨vs, hvs, hy⟩ := yes_oc hy
  obtain ⟨h1, hy⟩ := yes_bi hy
  rw [wrK_eq] at hy
  obtain ⟨m', hm', hy⟩ := yes_oc hy
  obtain ⟨ys, h2, h3, h4⟩ := cellsV_ok hvs hv
  obtain ⟨g, w', hg, hR', hrun⟩ := h.wr hm' h2 h3
  refine ⟨m', w', g, hg, hR', hy, ?_⟩
  rw [Nat.beq_eq, len_eq] at h1
  have hl := h2.length
  have h5 : x.cells.size = n := by rw [h4]; simp; omega
  unfold storeVar
  rw [Sem.run_bind, Sx.run_sizeOf (szT_eq hn)]
  simp only [Result.andThen_ok]
  rw [if_neg (show ¬ (x.cells.size ≠ n) from fun h => h h5), h4]
  exact hrun Q
theorem OpOK.store (t : TypeId) (a x : Operand) : OpOK c (.store t a x) := fun e m K Γ w ρ dst T pos af gu hR hρ h => by
  have h' : Yes ((ev a e).onPtr (fun b o => storeK P t m b o (ev x e) (fun m => K (.tup []) m) none) none) := h
  obtain ⟨b, o, hb, hy⟩ := yes_onPtr h'
  obtain ⟨m', w', g, hg, hR', hy, hrun⟩ := store_ok hR (hρ x) hy
  have hx := hρ a
  rw [hb] at hx
  obtain ⟨g', hg', hp⟩ := dv_ptr hx
  rw [hg] at hg'
  cases hg'
  exact ⟨_, m', Γ, undef, w', LeG.refl _, hR', DV.undef, hy, .inr ⟨by simp [execOp, Instr.storeAt, hp, Instr.sureAddr, hrun], rfl⟩⟩
/-- A new row of known cells. -/
theorem Rel.newC (h : Rel c Γ m w) {vs : List V} {ys : List Value} (rest : List Value) {T : TypeId} {fz : Bool} (hos : w'.os = w.os) (ht : w'.tape = w.tape) (ho : w'.output = w.output) (hv : DVL c.ν Γ vs ys) (h1 : ∀ y ∈ ys, y.oneCell' = true) (hh : w'.heap = w.heap.push (.cells (ys ++ rest).toArray T)) :
    Rel c (addG Γ m.n ⟨w.heap.size, 0, (ys ++ rest).length⟩) (m.add (.cells vs.length (trOf vs) T fz)) w' := by
  have hlen := hv.length
  refine h.alloc (o := .cells (ys ++ rest).toArray T) hos ht ho hh ⟨(ys ++ rest).toArray, T, (0, 0), by rw [hh]; simp, by simp, ?_, fun _ => rfl, fun i _ => by simp, fun i hi => ?_⟩
  · show vs.length ≤ (ys ++ rest).length
    simp; omega
  · obtain ⟨y, h2, h3⟩ := hv.get (List.getElem?_eq_getElem hi)
    refine ⟨y, ?_, h1 y (List.mem_of_getElem? h2), ?_⟩
    · show (ys ++ rest).toArray[0 + i]? = _
      rw [Nat.zero_add, List.getElem?_toArray, List.getElem?_append_left (by omega)]
      exact h2
    · rcases trOf_get (List.getElem?_eq_getElem hi) with e1 | e1
      · rw [e1]; exact h3.mono (LeG.add h.fresh _)
      · rw [e1, DV]; trivial
theorem alloC_eq {α : Type} (m : M) (vs : List V) (T : TypeId) (K : Nat → M → α) : alloC m vs T K = K m.n (m.add (.cells vs.length (trOf vs) T false)) := by
  unfold alloC
  rw [frc_eq, allo_eq, len_eq]
theorem zeroT_ok {t : TypeId} {vs : List V} (h : cellsV (zeroT Q t) = some vs) : ∃ z, (Q.info? t).map (·.zero) = some (some z) ∧ ∃ ys, DVL c.ν Γ vs ys ∧ (∀ y ∈ ys, y.oneCell' = true) ∧ z.cells = ys.toArray := by
  unfold zeroT at h
  cases hi : Q.info? t with
  | none => rw [hi] at h; cases h
  | some i =>
    rw [hi] at h
    cases hz : i.zero with
    | none => simp only [hz] at h; cases h
    | some z =>
      simp only [hz] at h
      exact ⟨z, by simp [hz], cellsV_ok h (vOf_ok 4 z)⟩
/-- A pointer at a new row. -/
theorem new_var (h : Rel c Γ m w) {vs : List V} {ys : List Value} {T : TypeId} {K : Kt} (hv : DVL c.ν Γ vs ys) (h1 : ∀ y ∈ ys, y.oneCell' = true) (hy : Yes (alloC m vs T fun k m => K (.ptr k 0) m)) :
    ∃ v m' Γ', LeG Γ Γ' ∧ Rel c Γ' m' (w.alloc (.cells ys.toArray T)) ∧ DV c.ν Γ' v (.pointer (some ⟨w.heap.size, 0, none⟩)) ∧ Yes (K v m') := by
  rw [alloC_eq] at hy
  have hR' := h.newC (w' := w.alloc (.cells ys.toArray T)) [] (T := T) (fz := false) rfl rfl rfl hv h1 (by rw [List.append_nil]; rfl)
  refine ⟨_, _, _, LeG.add h.fresh _, hR', ?_, hy⟩
  exact mk_ptr (addG_same _ _ _)
theorem OpOK.alloc (t : TypeId) : OpOK c (.alloc t) := fun e m K Γ w ρ dst T pos af gu hR hρ h => by
  have e1 : cOp (.alloc t) = ⟨fun _ m K => oc (cellsV (zeroT P t)) none fun cs => alloC m cs t fun k m => K (.ptr k 0) m⟩ := by kernel_rfl
  rw [e1] at h
  dsimp only at h
  obtain ⟨vs, hvs, hy⟩ := yes_oc h
  obtain ⟨z, hz, ys, h1, h2, h3⟩ := zeroT_ok (c := c) (Γ := Γ) hvs
  obtain ⟨v, m', Γ', hl, hR', hv, hy⟩ := new_var hR h1 h2 hy
  refine ⟨v, m', Γ', _, _, hl, hR', hv, hy, .inl ?_⟩
  obtain ⟨ti, hi, hzz⟩ := Option.map_eq_some_iff.1 hz
  simp only [execOp, Instr.alloc]
  simp [zeroValue, typeInfo, hi, hzz, newVar, newRow, h3]
theorem OpOK.box (t : TypeId) (x : Operand) : OpOK c (.box t x) := fun e m K Γ w ρ dst T pos af gu hR hρ h => by
  have h' : Yes (oc (cellsV (ev x e)) none fun cs => alloC m cs t fun k m => K (.ptr k 0) m) := h
  obtain ⟨vs, hvs, hy⟩ := yes_oc h'
  obtain ⟨ys, h1, h2, h3⟩ := cellsV_ok hvs (hρ x)
  obtain ⟨v, m', Γ', hl, hR', hv, hy⟩ := new_var hR h1 h2 hy
  refine ⟨v, m', Γ', _, _, hl, hR', hv, hy, .inl ?_⟩
  simp only [execOp, Instr.box]
  simp [newVar, newRow, h3]
end Go.Proofs.YtiekoeapmhhjbaaGreatDoor.X
/- The interpreter is sound, part L: addresses; parts of values. -/
namespace Go.Proofs.YtiekoeapmhhjbaaGreatDoor.X
open Go Go.RowKit
set_option linter.unusedVariables false
set_option linter.unusedSimpArgs false
variable {c : Ctx} {Γ Γ' : Gm} {m m' : M} {w w' : World} {ρ : Operand → Value} {e : En} {Q : Program}
theorem fieldOf_eq {t : TypeId} {i : Nat} {f : Field} (h : fieldOf Q t i = some f) : ∃ fs, Q.underlying t = some (.struct fs) ∧ fs[i]? = some f := by
  unfold fieldOf at h
  cases hu : Q.underlying t with
  | none => rw [hu] at h; cases h
  | some u =>
    rw [hu] at h
    cases u <;> first | (cases h; done) | skip
    rename_i fs
    exact ⟨fs, rfl, by simpa using h⟩
theorem fOff_eq {t : TypeId} {i o : Nat} (h : fOff Q t i = some o) : ∃ fs f z, Q.underlying t = some (.struct fs) ∧ fs[i]? = some f ∧ (Q.info? f.type).map (·.size) = some (z + 1) ∧ f.offset = o := by
  unfold fOff at h
  rw [ob_eq] at h
  obtain ⟨f, hf, h⟩ := h
  rw [ob_eq] at h
  obtain ⟨z, hz, h⟩ := h
  rw [bi_eq'] at h
  obtain ⟨h1, h2⟩ := h
  cases h2
  obtain ⟨fs, hu, hi⟩ := fieldOf_eq hf
  cases z with
  | zero => cases h1
  | succ z => exact ⟨fs, f, z, hu, hi, szT_eq hz, rfl⟩
theorem fieldAddr_ok {t : TypeId} {i : Nat} {x : V} {X : Value} {K : V → A} (hx : DV c.ν Γ x X) (h : Yes (fieldAddrK Q t i x K none)) : ∃ v z, DV c.ν Γ v z ∧ Yes (K v) ∧ ∀ w, (Instr.fieldAt t X i).run Q w = .ok z w := by
  unfold fieldAddrK at h
  obtain ⟨b, o, rfl, h⟩ := yes_onPtr h
  obtain ⟨f, hf, h⟩ := yes_oc h
  rw [frc_eq] at h
  obtain ⟨g, hg, rfl⟩ := dv_ptr hx
  obtain ⟨fs, fd, z, hu, hi, hz, rfl⟩ := fOff_eq hf
  refine ⟨_, _, mk_ptr (o := o + fd.offset) hg, h, fun w => ?_⟩
  simp only [Instr.fieldAt]
  simp [run_underlying hu, hi, fieldPlace, Sx.run_sizeOf hz, Instr.sureAddr, add_lit, Nat.add_assoc]
theorem OpOK.fieldAddr (t : TypeId) (x : Operand) (i : Nat) : OpOK c (.fieldAddr t x i) := fun e m K Γ w ρ dst T pos af gu hR hρ h => by
  have h' : Yes (fieldAddrK P t i (ev x e) (fun v => K v m) none) := h
  obtain ⟨v, z, h1, h2, h3⟩ := fieldAddr_ok (hρ x) h'
  exact Out.pure hR h2 h1 (by simp [execOp, h3])
theorem elz_eq {t : TypeId} {ez : TypeId × Nat} (h : elz Q t = some ez) : Q.underlying t = some (.slice ez.1) ∧ (Q.info? ez.1).map (·.size) = some ez.2 := by
  unfold elz at h
  rw [ob_eq] at h
  obtain ⟨el, hel, h⟩ := h
  rw [ob_eq] at h
  obtain ⟨z, hz, h⟩ := h
  cases h
  refine ⟨?_, szT_eq hz⟩
  unfold elT at hel
  cases hu : Q.underlying t with
  | none => rw [hu] at hel; cases hel
  | some u => rw [hu] at hel; cases u <;> first | (cases hel; done) | (cases hel; rfl)
theorem arT_eq {t : TypeId} {a : Nat × TypeId × Nat} (h : arT Q t = some a) : Q.underlying t = some (.array a.1 a.2.1) ∧ (Q.info? a.2.1).map (·.size) = some a.2.2 := by
  unfold arT at h
  cases hu : Q.underlying t with
  | none => rw [hu] at h; cases h
  | some u =>
    rw [hu] at h
    cases u <;> first | (cases h; done) | skip
    rename_i n el
    have h' : ob (szT Q el) (fun z => some (n, el, z)) = some a := h
    rw [ob_eq] at h'
    obtain ⟨z, hz, h'⟩ := h'
    cases h'
    exact ⟨rfl, szT_eq hz⟩
theorem yes_onInt2 {v : V} {K : IntKind → Nat → A} (h : Yes (v.onInt K none)) : ∃ k n, v = .int k n ∧ Yes (K k n) := yes_onInt h
theorem indexAddr_ok {t : TypeId} {x y : V} {X Y : Value} {K : V → A} (hx : DV c.ν Γ x X) (hy : DV c.ν Γ y Y) (h : Yes (indexAddrK Q t x y K none)) : ∃ v z, DV c.ν Γ v z ∧ Yes (K v) ∧ ∀ w, (Instr.indexAt t X Y).run Q w = .ok z w := by
  unfold indexAddrK at h
  obtain ⟨q, i, rfl, h⟩ := yes_onInt h
  obtain ⟨hp, h⟩ := yes_bi h
  have hY := dv_int hy
  rw [wrap_pos hp] at hY
  subst hY
  cases x with
  | slice b o l k =>
    have h' : Yes (oc (elz Q t) none fun ez => bi (Nat.blt i l) (frc (Nat.add o (Nat.mul i ez.2)) fun o => K (.ptr b o)) none) := h
    obtain ⟨ez, hez, h'⟩ := yes_oc h'
    obtain ⟨h1, h'⟩ := yes_bi h'
    rw [frc_eq] at h'
    rw [Nat.blt_eq] at h1
    obtain ⟨hu, hz⟩ := elz_eq hez
    obtain ⟨g, p, hg, hc, rfl⟩ := dv_slice hx
    refine ⟨_, _, mk_ptr (o := o + i * ez.2) hg, h', fun w => ?_⟩
    have h2 : ((i : Int) < (l : Int)) := by omega
    simp only [Instr.indexAt]
    simp [run_underlying hu, asIntOf, Sx.run_sizeOf hz, h1, add_lit, Nat.add_assoc]
  | ptr b o =>
    have h' : Yes (oc (arT Q t) none fun a => bi (Nat.blt i a.1) (frc (Nat.add o (Nat.mul i a.2.2)) fun o => K (.ptr b o)) none) := h
    obtain ⟨a, ha, h'⟩ := yes_oc h'
    obtain ⟨h1, h'⟩ := yes_bi h'
    rw [frc_eq] at h'
    rw [Nat.blt_eq] at h1
    obtain ⟨hu, hz⟩ := arT_eq ha
    obtain ⟨g, hg, rfl⟩ := dv_ptr hx
    refine ⟨_, _, mk_ptr (o := o + i * a.2.2) hg, h', fun w => ?_⟩
    simp only [Instr.indexAt]
    simp [run_underlying hu, asIntOf, Sx.run_sizeOf hz, h1, add_lit, Nat.add_assoc, Instr.sureAddr]
  | _ => exact (yes_none h).elim
theorem OpOK.indexAddr (t : TypeId) (x y : Operand) : OpOK c (.indexAddr t x y) := fun e m K Γ w ρ dst T pos af gu hR hρ h => by
  have h' : Yes (indexAddrK P t (ev x e) (ev y e) (fun v => K v m) none) := h
  obtain ⟨v, z, h1, h2, h3⟩ := indexAddr_ok (hρ x) (hρ y) h'
  exact Out.pure hR h2 h1 (by simp [execOp, h3])
/-- A part of an aggregate. -/
theorem part_ok {t : TypeId} {cs : List V} {ys : List Value} {o : Nat} {v : V} (hv : DVL c.ν Γ cs ys) (h1 : ∀ y ∈ ys, y.oneCell' = true) (h : part Q t cs o = some v) : ∃ z, DV c.ν Γ v z ∧ ∀ w, (Go.part t ys.toArray o).run Q w = .ok z w := by
  unfold part at h
  cases hl : ldT Q t with
  | bad => rw [hl] at h; cases h
  | one =>
    rw [hl] at h
    have h' : headO (dropL o cs) = some v := h
    obtain ⟨u, hu, ha⟩ := ldT_one hl
    rw [headO_eq, dropL_eq] at h'
    obtain ⟨y, h2, h3⟩ := (hv.drop o).head h'
    rw [List.head?_drop] at h2
    refine ⟨y, h3, fun w => ?_⟩
    unfold Go.part
    rw [Sem.run_bind, Sx.run_isAgg hu, ha]
    simp [h2]
  | agg n =>
    rw [hl] at h
    have h' : ob (takeL n (dropL o cs)) (fun l => some (V.agg l)) = some v := h
    obtain ⟨u, hu, ha, hz⟩ := ldT_agg hl
    rw [ob_eq] at h'
    obtain ⟨l, h2, h3⟩ := h'
    cases h3
    obtain ⟨rfl, h4⟩ := takeL_eq n h2
    rw [dropL_eq] at h4 ⊢
    refine ⟨.agg ((ys.drop o).take n).toArray, by rw [DV]; exact ⟨_, (hv.drop o).take n, fun y hy => h1 y (List.mem_of_mem_drop (List.mem_of_mem_take hy)), rfl⟩, fun w => ?_⟩
    unfold Go.part
    rw [Sem.run_bind, Sx.run_isAgg hu, ha]
    simp only [Result.andThen_ok, if_true, Sem.run_bind, Sx.run_sizeOf hz]
    show Result.ok _ w = _
    congr 2
    apply Array.ext'
    simp [List.take_drop]
theorem OpOK.field (t : TypeId) (x : Operand) (i : Nat) : OpOK c (.field t x i) := fun e m K Γ w ρ dst T pos af gu hR hρ h => by
  have h' : Yes (ovm (xField P t (ev x e) i) m K) := h
  obtain ⟨v, hv, hy⟩ := yes_ovm h'
  have hx := hρ x
  unfold xField at hv
  split at hv
  · rename_i cs hcs
    rw [hcs] at hx
    rw [ob_eq] at hv
    obtain ⟨f, hf, hv⟩ := hv
    obtain ⟨fs, hu, hi⟩ := fieldOf_eq hf
    obtain ⟨ys, h1, h2, h3⟩ := dv_agg hx
    obtain ⟨z, h4, h5⟩ := part_ok h1 h2 hv
    refine Out.pure hR hy h4 ?_
    have : (Instr.field t (ρ x) i).run P w = .ok z w := by
      unfold Instr.field
      rw [Sem.run_bind, run_underlying hu]
      simp [hi, h3, asAgg, h5]
    simp [execOp, this]
  · cases hv
theorem index_ok {t : TypeId} {x y : V} {X Y : Value} {v : V} (hx : DV c.ν Γ x X) (hy : DV c.ν Γ y Y) (h : xIndex Q t x y = some v) : ∃ z, DV c.ν Γ v z ∧ ∀ w, (Instr.index t X Y).run Q w = .ok z w := by
  unfold xIndex at h
  split at h
  · rename_i q i
    rw [bi_eq] at h
    obtain ⟨hp, h⟩ := h
    have hY := dv_int hy
    rw [wrap_pos hp] at hY
    subst hY
    split at h
    · rename_i s
      rw [bi_eq] at h
      obtain ⟨hs, h⟩ := h
      have hu : Q.underlying t = some .string := by
        unfold strT at hs
        cases hu : Q.underlying t with
        | none => rw [hu] at hs; cases hs
        | some u => rw [hu] at hs; cases u <;> first | rfl | (cases hs; done)
      rw [dv_str hx]
      have h' : ∃ a r, s.drop i = a :: r ∧ v = .int .u8 (a % 256) := by
        rw [dropL_eq] at h
        cases hd : s.drop i with
        | nil => rw [hd] at h; cases h
        | cons a r => rw [hd] at h; cases h; exact ⟨a, r, rfl, rfl⟩
      obtain ⟨a, r, hd, rfl⟩ := h'
      have hi : s[i]? = some a := by rw [← List.head?_drop, hd]; rfl
      refine ⟨.int .u8 ((a % 256 : Nat) : Int), mk_int (wrap_pos (by unfold posI; rw [Nat.blt_eq]; exact Nat.mod_lt _ (by decide))), fun w => ?_⟩
      have h2 : (strB s)[i]? = some (UInt8.ofNat a) := by
        have hlt : i < (strB s).size := by rw [strB_size]; exact (List.getElem?_eq_some_iff.1 hi).1
        rw [getElem?_pos (strB s) i hlt]
        have h3 : (strB s).data[i]? = some (UInt8.ofNat a) := by simp [strB, hi]
        obtain ⟨hl2, h4⟩ := Array.getElem?_eq_some_iff.1 h3
        rw [← h4]
        rfl
      simp only [Instr.index]
      simp [asIntOf, run_underlying hu, h2]
    · rename_i cs
      rw [ob_eq] at h
      obtain ⟨a, ha, h⟩ := h
      rw [bi_eq] at h
      obtain ⟨hlt, h⟩ := h
      rw [Nat.blt_eq] at hlt
      obtain ⟨hu, hz⟩ := arT_eq ha
      obtain ⟨ys, h1, h2, rfl⟩ := dv_agg hx
      obtain ⟨z, h4, h5⟩ := part_ok h1 h2 h
      refine ⟨z, h4, fun w => ?_⟩
      have h6 := h5 w
      simp only [Instr.index]
      simp [asIntOf, run_underlying hu, Sx.run_sizeOf hz, hlt]
      exact h6
    · cases h
  · cases h
theorem OpOK.index (t : TypeId) (x y : Operand) : OpOK c (.index t x y) := fun e m K Γ w ρ dst T pos af gu hR hρ h => by
  have h' : Yes (ovm (xIndex P t (ev x e) (ev y e)) m K) := h
  obtain ⟨v, hv, hy⟩ := yes_ovm h'
  obtain ⟨z, h1, h2⟩ := index_ok (hρ x) (hρ y) hv
  exact Out.pure hR hy h1 (by simp [execOp, h2])
end Go.Proofs.YtiekoeapmhhjbaaGreatDoor.X
/- The interpreter is sound, part M: pieces of slices and texts; lengths. -/
namespace Go.Proofs.YtiekoeapmhhjbaaGreatDoor.X
open Go Go.RowKit
set_option linter.unusedVariables false
set_option linter.unusedSimpArgs false
variable {c : Ctx} {Γ Γ' : Gm} {m m' : M} {w w' : World} {ρ : Operand → Value} {e : En} {Q : Program}
theorem natV_ok {v : V} {X : Value} {i : Nat} (h : natV v = some i) (hv : DV c.ν Γ v X) : ∃ k : IntKind, X = .int k i := by
  unfold natV at h
  split at h
  · rename_i q n
    rw [bi_eq] at h
    obtain ⟨h1, h2⟩ := h
    cases h2
    refine ⟨q, ?_⟩
    rw [dv_int hv, wrap_pos h1]
  · cases h
def OI (ρ : Operand → Value) (o : Option Operand) (d i : Nat) : Prop := match o with
  | none => i = d
  | some x => ∃ k : IntKind, ρ x = .int k i
theorem optI_ok (hρ : ∀ x, DV c.ν Γ (ev x e) (ρ x)) {o : Option Operand} {d i : Nat} (h : optI e o d = some i) : OI ρ o d i := by
  cases o with
  | none => cases h; rfl
  | some x => exact natV_ok (v := ev x e) h (hρ x)
theorem bounds_ok {lo hi mx : Option Operand} {n cp l h q : Nat} (isS : Bool) (hl : OI ρ lo 0 l) (hh : OI ρ hi n h) (hq : OI ρ mx cp q) (hm : okHM hi mx = true) (h1 : l ≤ h) (h2 : h ≤ q) (h3 : q ≤ cp) (w : World) :
    (Instr.sliceBounds isS n cp (lo.map ρ) (hi.map ρ) (mx.map ρ)).run Q w = .ok (l, h, q) w := by
  have e1 : (l : Int) ≤ h := by omega
  have e2 : (h : Int) ≤ q := by omega
  have e3 : (q : Int) ≤ cp := by omega
  cases lo <;> cases hi <;> cases mx <;> simp only [OI] at hl hh hq <;> first | (cases hm; done) | skip
  · subst hl hh hq; simp [Instr.sliceBounds]
  · obtain ⟨k, hk⟩ := hh; subst hl hq; simp [Instr.sliceBounds, Instr.sliceBound, asIntOf, hk, h2]
  · obtain ⟨k, hk⟩ := hh; obtain ⟨k2, hk2⟩ := hq; subst hl; simp [Instr.sliceBounds, Instr.sliceBound, asIntOf, hk, hk2, h2, h3]
  · obtain ⟨k, hk⟩ := hl; subst hh hq; simp [Instr.sliceBounds, Instr.sliceBound, asIntOf, hk, h1]
  · obtain ⟨k, hk⟩ := hl; obtain ⟨k1, hk1⟩ := hh; subst hq; simp [Instr.sliceBounds, Instr.sliceBound, asIntOf, hk, hk1, h1, h2]
  · obtain ⟨k, hk⟩ := hl; obtain ⟨k1, hk1⟩ := hh; obtain ⟨k2, hk2⟩ := hq; simp [Instr.sliceBounds, Instr.sliceBound, asIntOf, hk, hk1, hk2, h1, h2, h3]
theorem run_slice_at {t el : TypeId} {z : Nat} {a : Option Addr} {n cp l h q : Nat} {lo hi mx : Option Value} (hu : Q.underlying t = some (.slice el)) (hz : (Q.info? el).map (·.size) = some z) (hb : (Instr.sliceBounds true n cp lo hi mx).run Q w = .ok (l, h, q) w) :
    (Instr.sliceAt t (.slice a n cp) lo hi mx).run Q w = .ok (.slice (if q = l then a else a.map (·.add (l * z))) (h - l) (q - l)) w := by
  unfold Instr.sliceAt
  rw [Sem.run_bind, run_underlying hu]
  simp only [Result.andThen_ok, Instr.slice]
  rw [Sem.run_bind, run_underlying hu]
  simp only [Result.andThen_ok]
  rw [Sem.run_bind, hb]
  simp only [Result.andThen_ok]
  rw [Sem.run_bind, Sx.run_sizeOf hz]
  rfl
theorem strT_eq {t : TypeId} (h : strT Q t = true) : Q.underlying t = some .string := by
  unfold strT at h
  cases hu : Q.underlying t with
  | none => rw [hu] at h; cases h
  | some u => rw [hu] at h; cases u <;> first | rfl | (cases h; done)
/-- The known room of a row is there. -/
theorem Rel.room (h : Rel c Γ m w) {b o rm : Nat} (hr : roomN m b o = some rm) : ∃ g, Γ b = some g ∧ o + rm ≤ g.N := by
  unfold roomN at hr
  cases hb : m.get b with
  | cells n t T fz =>
    rw [hb] at hr
    have h' : bi (Nat.ble o n) (some (n - o)) none = some rm := hr
    rw [bi_eq] at h'
    obtain ⟨h1, h2⟩ := h'
    cases h2
    rw [Nat.ble_eq] at h1
    obtain ⟨g, hg, hk⟩ := h.hold b (by rw [hb]; simp)
    rw [hb] at hk
    obtain ⟨A, T', fr, _, _, hN, _⟩ := hk
    exact ⟨g, hg, by omega⟩
  | _ => rw [hb] at hr; cases hr
theorem mk_slice {b o l p : Nat} {g : G} {cp : Cap} (h : Γ b = some g) (hc : CapOK g o cp l p) : DV c.ν Γ (.slice b o l cp) (.slice (some ⟨g.blk, g.sh + o, none⟩) l p) := by rw [DV]; exact ⟨g, p, h, hc, rfl⟩
theorem mk_emp {z : Bool} {a : Addr} {p : Nat} (h : z = true → p = 0) : DV c.ν Γ (.emp z) (.slice (some a) 0 p) := by rw [DV]; exact ⟨a, p, h, rfl⟩
theorem cut_ok {b o z l h q : Nat} {g : G} (hg : Γ b = some g) (h1 : l ≤ h) (h2 : h ≤ q) : DV c.ν Γ (cut b o z l h q) (.slice (if q = l then some ⟨g.blk, g.sh + o, none⟩ else (some (⟨g.blk, g.sh + o, none⟩ : Addr)).map (·.add (l * z))) (h - l) (q - l)) := by
  have hd : cut b o z l h q = bi (Nat.beq q l) (.slice b o 0 (.is 0)) (.slice b (o + l * z) (h - l) (.is (q - l))) := rfl
  rw [hd]
  cases hq : Nat.beq q l with
  | true =>
    rw [Nat.beq_eq] at hq
    subst hq
    have : h = q := by omega
    subst this
    rw [bi_t, if_pos rfl, Nat.sub_self]
    exact mk_slice hg ⟨Nat.le_refl _, rfl⟩
  | false =>
    have hne : q ≠ l := fun he => by rw [he, Nat.beq_refl] at hq; cases hq
    rw [bi_f, if_neg hne, Option.map_some, add_lit, Nat.add_assoc]
    exact mk_slice hg ⟨by omega, rfl⟩
theorem noOp_eq {lo : Option Operand} (h : noOp lo = true) : lo = none := by
  cases lo with
  | none => rfl
  | some x => cases h
theorem sliceY_ok (hρ : ∀ x, DV c.ν Γ (ev x e) (ρ x)) {t : TypeId} {x : V} {X : Value} {lo hi mx : Option Operand} {v : V} {f : Nat} (hm : okHM hi mx = true) (hf : symHi e hi = some f) (hx : DV c.ν Γ x X) (h : xSliceY Q e t x lo mx f = some v) :
    ∃ z, DV c.ν Γ v z ∧ (Instr.sliceAt t X (lo.map ρ) (hi.map ρ) (mx.map ρ)).run Q w = .ok z w := by
  unfold xSliceY at h
  rw [ob_eq, ] at h
  obtain ⟨ez, hez, h⟩ := h
  rw [bi_eq, bi_eq] at h
  obtain ⟨hlo, hmx, h⟩ := h
  have hlo := noOp_eq hlo
  subst hlo
  obtain ⟨hu, hz⟩ := elz_eq hez
  cases hi with
  | none => cases hf
  | some xh =>
  obtain ⟨f3, _, z, z1, z2, ez1, _, hS, _⟩ := opN_ok (c := c) (Γ := Γ) (v := ev xh e) hf (hρ xh)
  have hh : OI ρ (some xh) z z := ⟨.i64, ez1⟩
  have hq : ∀ p, ∃ q, OI ρ mx p q ∧ (q = p ∨ q = z) := fun p => by
    cases mx with
    | none => exact ⟨p, rfl, .inl rfl⟩
    | some xm =>
      have hmx' : Option.rec (motive := fun _ => Bool) false (fun g => Nat.beq f g) (opN (ev xm e)) = true := hmx
      cases hg : opN (ev xm e) with
      | none => rw [hg] at hmx'; cases hmx'
      | some g =>
        rw [hg] at hmx'
        have hmx' : Nat.beq f g = true := hmx'
        rw [Nat.beq_eq] at hmx'
        subst hmx'
        obtain ⟨_, _, z', _, _, ez2, h6, _⟩ := opN_ok (c := c) (Γ := Γ) (v := ev xm e) hg (hρ xm)
        have hz' := (c.nu.fam f f3)
        have hzz : z' = z := by
          have k1 := opN_ok (c := c) (Γ := Γ) (v := ev xh e) hf (hρ xh)
          obtain ⟨_, _, z3, _, _, e3, e4, _⟩ := k1
          rw [ez1] at e3
          have e5 : (z : Int) = z3 := by injection e3
          have := (e4 (.int .i64 z')).1 ((h6 _).2 rfl)
          have e6 : (z' : Int) = z3 := by injection this
          omega
        subst hzz
        exact ⟨z', ⟨.i64, ez2⟩, .inr rfl⟩
  have go : ∀ (a : Option Addr) (n p : Nat), z ≤ p → X = .slice a n p → ∃ y, c.ν (110 + f) y ∧ y.oneCell' = true ∧ (Instr.sliceAt t X ((none : Option Operand).map ρ) ((some xh).map ρ) (mx.map ρ)).run Q w = .ok y w := fun a n p hp hX => by
    obtain ⟨q, hq1, hq2⟩ := hq p
    subst hX
    refine ⟨_, ?_, ?_, run_slice_at hu hz (bounds_ok (n := n) (cp := p) (q := q) true (lo := none) rfl (h := z) (by exact ⟨.i64, ez1⟩) hq1 hm (Nat.zero_le _) (by omega) (by omega) w)⟩
    · rw [Nat.sub_zero, Nat.sub_zero]
      exact (hS _).2 ⟨_, q, by omega, rfl⟩
    · rfl
  split at h
  · rename_i b o n cp
    rw [bi_eq, Nat.ble_eq] at h
    obtain ⟨h1, h⟩ := h
    cases h
    obtain ⟨g, p, hg, hcap, hX⟩ := dv_slice hx
    obtain ⟨y, y1, y2, y3⟩ := go _ n p (by have := hcap.1; omega) hX
    exact ⟨y, mk_opq y1 y2, y3⟩
  · rename_i i
    rw [ob_eq] at h
    obtain ⟨g, hg, h⟩ := h
    rw [bi_eq, Nat.beq_eq] at h
    obtain ⟨rfl, h⟩ := h
    cases h
    obtain ⟨rfl, _⟩ := famS_eq hg
    obtain ⟨a, p, hp, hX⟩ := (hS _).1 (dv_opq hx).1
    obtain ⟨y, y1, y2, y3⟩ := go a z p hp hX
    exact ⟨y, mk_opq y1 y2, y3⟩
  · cases h
theorem slice_ok (hR : Rel c Γ m w) (hρ : ∀ x, DV c.ν Γ (ev x e) (ρ x)) {t : TypeId} {x : V} {X : Value} {lo hi mx : Option Operand} {v : V} (hx : DV c.ν Γ x X) (h : xSlice Q e m t x lo hi mx = some v) :
    ∃ z, DV c.ν Γ v z ∧ (Instr.sliceAt t X (lo.map ρ) (hi.map ρ) (mx.map ρ)).run Q w = .ok z w := by
  unfold xSlice at h
  rw [bi_eq] at h
  obtain ⟨hm, h⟩ := h
  cases hf : symHi e hi with
  | some f =>
    rw [hf] at h
    exact sliceY_ok hρ hm hf hx h
  | none =>
  rw [hf] at h
  replace h : xSliceB Q e m t x lo hi mx = some v := h
  unfold xSliceB at h
  split at h
  · rename_i s
    rw [bi_eq] at h
    obtain ⟨hs, h⟩ := h
    have hu := strT_eq hs
    cases mx with
    | some _ => cases h
    | none =>
      have h' : ob (optI e lo 0) (fun l => ob (optI e hi (len s)) fun h => bi (Nat.ble l h) (bi (Nat.ble h (len s)) (ob (takeL (h - l) (dropL l s)) fun r => some (.str r)) none) none) = some v := h
      rw [ob_eq] at h'
      obtain ⟨l, hl, h'⟩ := h'
      rw [ob_eq] at h'
      obtain ⟨k, hk, h'⟩ := h'
      rw [bi_eq, bi_eq, ob_eq] at h'
      obtain ⟨h1, hlk, r, hr, h2⟩ := h'
      cases h2
      rw [Nat.ble_eq] at h1
      obtain ⟨rfl, h3⟩ := takeL_eq _ hr
      rw [dropL_eq, List.length_drop] at h3
      rw [dropL_eq]
      rw [Nat.ble_eq, len_eq] at hlk
      rw [dv_str hx]
      rw [len_eq] at hk
      have hb := bounds_ok (Q := Q) (ρ := ρ) (n := (strB s).size) (cp := (strB s).size) (q := (strB s).size) (mx := none) false (optI_ok hρ hl) (by rw [strB_size]; exact optI_ok hρ hk) rfl hm h1 (by rw [strB_size]; exact hlk) (Nat.le_refl _) w
      refine ⟨_, mk_str rfl, ?_⟩
      rw [run_sliceAt_string w t _ _ _ _ hu]
      simp only [Instr.slice]
      rw [Sem.run_bind, run_underlying hu]
      simp only [Result.andThen_ok, Option.map_none, Option.isSome_none, Bool.false_eq_true, if_false]
      have hb' : (Instr.sliceBounds false (strB s).size (strB s).size (lo.map ρ) (hi.map ρ) none).run Q w = .ok (l, k, (strB s).size) w := hb
      rw [Sem.run_bind, hb']
      show Result.ok (Value.string ((strB s).extract l k)) w = _
      congr 2
      apply ByteArray.ext
      apply Array.ext'
      simp [strB, ByteArray.data_extract, List.map_take, List.map_drop, List.take_drop, List.extract]
  · rw [ob_eq] at h
    obtain ⟨ez, hez, h⟩ := h
    rw [ob_eq] at h
    obtain ⟨l, hl, h⟩ := h
    rw [ob_eq] at h
    obtain ⟨k, hk, h⟩ := h
    rw [ob_eq] at h
    obtain ⟨q, hq, h⟩ := h
    rw [bi_eq, bi_eq, bi_eq] at h
    obtain ⟨h1, h2, h3, h4⟩ := h
    cases h4
    rw [Nat.beq_eq] at h1 h2 h3
    subst h1 h2 h3
    obtain ⟨hu, hz⟩ := elz_eq hez
    rw [dv_nilS hx]
    refine ⟨.slice none 0 0, by rw [DV], ?_⟩
    rw [run_slice_at hu hz (bounds_ok true (optI_ok hρ hl) (optI_ok hρ hk) (optI_ok hρ hq) hm (Nat.le_refl _) (Nat.le_refl _) (Nat.le_refl _) w)]
    rfl
  · rename_i z
    rw [ob_eq] at h
    obtain ⟨ez, hez, h⟩ := h
    rw [ob_eq] at h
    obtain ⟨l, hl, h⟩ := h
    rw [ob_eq] at h
    obtain ⟨k, hk, h⟩ := h
    rw [bi_eq, bi_eq] at h
    obtain ⟨h1, h2, h⟩ := h
    rw [Nat.beq_eq] at h1 h2
    subst h1 h2
    obtain ⟨hu, hz⟩ := elz_eq hez
    obtain ⟨a, p, hp, rfl⟩ := dv_emp hx
    cases mx with
    | none =>
      cases h
      refine ⟨_, ?_, run_slice_at hu hz (bounds_ok (cp := p) (q := p) (mx := none) true (optI_ok hρ hl) (optI_ok hρ hk) rfl hm (Nat.le_refl _) (Nat.zero_le _) (Nat.le_refl _) w)⟩
      have e1 : (if p = 0 then some a else (some a).map (·.add (0 * ez.2))) = some a := by
        split
        · rfl
        · rw [Nat.zero_mul]; rfl
      rw [e1, Nat.sub_zero]
      exact mk_emp hp
    | some x2 =>
      have h' : ob (optI e (some x2) 0) (fun q => bi (Nat.beq q 0) (some (V.emp true)) none) = some v := h
      rw [ob_eq] at h'
      obtain ⟨q, hq, h'⟩ := h'
      rw [bi_eq] at h'
      obtain ⟨h3, h4⟩ := h'
      cases h4
      rw [Nat.beq_eq] at h3
      subst h3
      have hq' : OI ρ (some x2) p 0 := optI_ok (d := 0) hρ hq
      refine ⟨_, ?_, run_slice_at hu hz (bounds_ok (cp := p) (q := 0) true (optI_ok hρ hl) (optI_ok hρ hk) hq' hm (Nat.le_refl _) (Nat.zero_le _) (Nat.zero_le _) w)⟩
      rw [if_pos rfl]
      exact mk_emp (fun _ => rfl)
  · rename_i b o n cp
    rw [ob_eq] at h
    obtain ⟨ez, hez, h⟩ := h
    rw [ob_eq] at h
    obtain ⟨l, hl, h⟩ := h
    rw [ob_eq] at h
    obtain ⟨k, hk, h⟩ := h
    rw [bi_eq] at h
    obtain ⟨h1, h⟩ := h
    rw [Nat.ble_eq] at h1
    obtain ⟨hu, hz⟩ := elz_eq hez
    obtain ⟨g, p, hg, hcap, rfl⟩ := dv_slice hx
    cases cp with
    | is cp =>
      have h' : ob (optI e mx cp) (fun q => bi (Nat.ble k q) (bi (Nat.ble q cp) (some (cut b o ez.2 l k q)) none) none) = some v := h
      rw [ob_eq] at h'
      obtain ⟨q, hq, h'⟩ := h'
      rw [bi_eq, bi_eq] at h'
      obtain ⟨h2, h3, h4⟩ := h'
      cases h4
      rw [Nat.ble_eq] at h2 h3
      obtain ⟨_, rfl⟩ := hcap
      exact ⟨_, cut_ok hg h1 h2, run_slice_at hu hz (bounds_ok true (optI_ok hρ hl) (optI_ok hρ hk) (optI_ok hρ hq) hm h1 h2 h3 w)⟩
    | all z =>
      have h' : bi (Nat.beq ez.2 z) (bi (Nat.beq z 0) none (ob (roomN m b o) fun rm => bi (Nat.ble k (rm / z)) (match mx with
        | some _ => ob (optI e mx 0) fun q => bi (Nat.ble q (rm / z)) (bi (Nat.ble k q) (some (cut b o z l k q)) none) none
        | none => bi (Nat.beq l 0) (some (.slice b o k (.all z))) (bi (Nat.blt l (rm / z)) (some (.slice b (o + l * z) (k - l) (.all z))) (some (.emp false)))) none)) none = some v := h
      rw [bi_eq, bi_eq', ob_eq] at h'
      obtain ⟨h2, h3, rm, hrm, h'⟩ := h'
      rw [bi_eq] at h'
      obtain ⟨h4, h'⟩ := h'
      rw [Nat.beq_eq] at h2
      rw [Nat.ble_eq] at h4
      have hz0 : 0 < z := by
        rcases Nat.eq_zero_or_pos z with h0 | h0
        · rw [h0] at h3; cases h3
        · exact h0
      obtain ⟨hlp, hN⟩ := hcap
      obtain ⟨g', hg', hroom⟩ := hR.room hrm
      rw [hg] at hg'
      cases hg'
      have hrp : rm / z ≤ p := by
        have : rm ≤ p * z := by have hN' : o + p * z = g.N := hN; omega
        calc rm / z ≤ p * z / z := Nat.div_le_div_right this
          _ = p := Nat.mul_div_cancel p hz0
      cases mx with
      | some x2 =>
        have h5 : ob (optI e (some x2) 0) (fun q => bi (Nat.ble q (rm / z)) (bi (Nat.ble k q) (some (cut b o z l k q)) none) none) = some v := h'
        rw [ob_eq] at h5
        obtain ⟨q, hq, h5⟩ := h5
        rw [bi_eq, bi_eq] at h5
        obtain ⟨h6, h7, h8⟩ := h5
        cases h8
        rw [Nat.ble_eq] at h6 h7
        have hq' : OI ρ (some x2) p q := optI_ok (d := 0) hρ hq
        rw [← h2]
        exact ⟨_, cut_ok hg h1 h7, run_slice_at hu hz (bounds_ok true (optI_ok hρ hl) (optI_ok hρ hk) hq' hm h1 h7 (by omega) w)⟩
      | none =>
        have h5 : bi (Nat.beq l 0) (some (V.slice b o k (.all z))) (bi (Nat.blt l (rm / z)) (some (.slice b (o + l * z) (k - l) (.all z))) (some (.emp false))) = some v := h'
        refine ⟨_, ?_, run_slice_at hu hz (bounds_ok (cp := p) (q := p) (mx := none) true (optI_ok hρ hl) (optI_ok hρ hk) rfl hm h1 (by omega) (Nat.le_refl _) w)⟩
        rw [h2]
        cases h0 : Nat.beq l 0 with
        | true =>
          rw [h0, bi_t] at h5
          cases h5
          rw [Nat.beq_eq] at h0
          subst h0
          have e1 : (if p = 0 then some (⟨g.blk, g.sh + o, none⟩ : Addr) else (some (⟨g.blk, g.sh + o, none⟩ : Addr)).map (·.add (0 * z))) = some ⟨g.blk, g.sh + o, none⟩ := by
            split
            · rfl
            · rw [Nat.zero_mul]; rfl
          rw [e1, Nat.sub_zero, Nat.sub_zero]
          exact mk_slice hg ⟨by omega, hN⟩
        | false =>
          rw [h0, bi_f] at h5
          cases hlt : Nat.blt l (rm / z) with
          | true =>
            rw [hlt, bi_t] at h5
            cases h5
            rw [Nat.blt_eq] at hlt
            rw [if_neg (by omega), Option.map_some, add_lit, Nat.add_assoc]
            refine mk_slice hg ⟨by omega, ?_⟩
            have hN' : o + p * z = g.N := hN
            show o + l * z + (p - l) * z = g.N
            rw [Nat.add_assoc, ← Nat.add_mul, show l + (p - l) = p from by omega]
            exact hN'
          | false =>
            rw [hlt, bi_f] at h5
            cases h5
            have hlk : k - l = 0 := by
              have : ¬ l < rm / z := fun h => by rw [← Nat.blt_eq, hlt] at h; cases h
              omega
            rw [hlk]
            split
            · exact mk_emp (fun h => by cases h)
            · exact mk_emp (fun h => by cases h)
  · rename_i b o
    rw [ob_eq] at h
    obtain ⟨a, ha, h⟩ := h
    rw [ob_eq] at h
    obtain ⟨l, hl, h⟩ := h
    rw [ob_eq] at h
    obtain ⟨k, hk, h⟩ := h
    rw [ob_eq] at h
    obtain ⟨q, hq, h⟩ := h
    rw [bi_eq, bi_eq, bi_eq] at h
    obtain ⟨h1, h2, h3, h4⟩ := h
    cases h4
    rw [Nat.ble_eq] at h1 h2 h3
    obtain ⟨hu, hz⟩ := arT_eq ha
    obtain ⟨g, hg, rfl⟩ := dv_ptr hx
    refine ⟨_, cut_ok hg h1 h2, ?_⟩
    unfold Instr.sliceAt
    rw [Sem.run_bind, run_underlying hu]
    simp only [Result.andThen_ok, Instr.sureAddr]
    have hb := bounds_ok (Q := Q) false (optI_ok hρ hl) (optI_ok hρ hk) (optI_ok hρ hq) hm h1 h2 h3 w
    simp only [Sem.run_bind, Sem.run_pure, Result.andThen_ok, hb, Sx.run_sizeOf hz]
    congr 2
    split <;> rfl
  · cases h
theorem OpOK.slice (t : TypeId) (x : Operand) (lo hi mx : Option Operand) : OpOK c (.slice t x lo hi mx) := fun e m K Γ w ρ dst T pos af gu hR hρ h => by
  have h' : Yes (ovm (xSlice P e m t (ev x e) lo hi mx) m K) := h
  obtain ⟨v, hv, hy⟩ := yes_ovm h'
  obtain ⟨z, h1, h2⟩ := slice_ok hR hρ (hρ x) hv
  exact Out.pure hR hy h1 (by simp [execOp, h2])
end Go.Proofs.YtiekoeapmhhjbaaGreatDoor.X
/- The interpreter is sound, part N: lengths, the lesser and the greater. -/
namespace Go.Proofs.YtiekoeapmhhjbaaGreatDoor.X
open Go Go.RowKit
set_option linter.unusedVariables false
set_option linter.unusedSimpArgs false
variable {c : Ctx} {Γ Γ' : Gm} {m m' : M} {w w' : World} {ρ : Operand → Value} {e : En} {Q : Program}
/-- A number that a length is. -/
theorem mk_len {n : Nat} (h : n < 9223372036854775808) : DV c.ν Γ (intV n) (goInt n) := by
  rw [intV_eq]
  exact mk_int (wrap_pos (by unfold posI; rw [Nat.blt_eq]; exact h))
theorem Ent.length : ∀ {l : List (V × V × Nat)} {ys : List MapEntry}, Ent c.ν Γ l ys → ys.length = l.length
  | [], _, h => by rw [Ent] at h; subst h; rfl
  | _ :: _, _, h => by
    rw [Ent] at h
    obtain ⟨y, s, rfl, _, _, _, h4⟩ := h
    simp [Ent.length h4]
theorem Rel.map (h : Rel c Γ m w) {r : Nat} {es : List (V × V × Nat)} {cl : Nat} (hb : m.get r = .map es cl) : ∃ g ys, Γ r = some g ∧ w.heap[g.blk]? = some (.map ys cl) ∧ Ent c.ν Γ es ys.toList := by
  obtain ⟨g, hg, hk⟩ := h.hold r (by rw [hb]; simp)
  rw [hb] at hk
  obtain ⟨ys, h1, h2⟩ := hk
  exact ⟨g, ys, hg, h1, h2⟩
theorem run_getObj {r : Nat} {o : Obj} (h : w.heap[r]? = some o) (hc : ∀ a b d, o ≠ .cells a b d) : (getObj r).run Q w = .ok o w := by
  unfold getObj
  cases o <;> first | (simp only [Sem.run, h]; done) | (exact absurd rfl (hc _ _ _))
theorem len_ok (hR : Rel c Γ m w) {t ty : TypeId} {x : V} {X : Value} {v : V} (hx : DV c.ν Γ x X) (h : xLen Q m t x = some v) : ∃ z, DV c.ν Γ v z ∧ (Builtin.len_ #[t] ty #[X]).run Q w = .ok z w := by
  unfold xLen at h
  split at h
  · rename_i el b o l cp hu
    rw [bi_eq] at h
    obtain ⟨h1, h⟩ := h
    cases h
    rw [Nat.blt_eq] at h1
    obtain ⟨g, p, _, _, rfl⟩ := dv_slice hx
    exact ⟨_, mk_len h1, by simp [Builtin.len_, run_underlying hu]⟩
  · rename_i el hu
    cases h
    rw [dv_nilS hx]
    exact ⟨_, mk_len (by decide), by simp [Builtin.len_, run_underlying hu]⟩
  · rename_i el z hu
    cases h
    obtain ⟨a, p, _, rfl⟩ := dv_emp hx
    exact ⟨_, mk_len (by decide), by simp [Builtin.len_, run_underlying hu]⟩
  · rename_i el i hu
    unfold symLen at h
    rw [ob_eq] at h
    obtain ⟨f, hf, h⟩ := h
    cases h
    obtain ⟨rfl, f3⟩ := famS_eq hf
    obtain ⟨z, z1, z2, hN, hS, _⟩ := c.nu.fam f f3
    obtain ⟨a, p, hp, rfl⟩ := (hS _).1 (dv_opq hx).1
    exact ⟨.int .i64 z, mk_opq ((hN _).2 rfl) rfl, by simp [Builtin.len_, run_underlying hu]; rfl⟩
  · rename_i s hu
    rw [bi_eq] at h
    obtain ⟨h1, h⟩ := h
    cases h
    rw [Nat.blt_eq] at h1
    rw [dv_str hx]
    refine ⟨_, mk_len h1, ?_⟩
    simp [Builtin.len_, run_underlying hu, strB_size, len_eq]
  · rename_i k el hu
    cases h
    rw [dv_nilM hx]
    exact ⟨_, mk_len (by decide), by simp [Builtin.len_, run_underlying hu]⟩
  · rename_i k el r hu
    split at h
    · rename_i es cl hb
      rw [bi_eq] at h
      obtain ⟨h1, h⟩ := h
      cases h
      rw [Nat.blt_eq] at h1
      obtain ⟨g, hg, rfl⟩ := dv_map hx
      obtain ⟨g', ys, hg', h2, h3⟩ := hR.map hb
      rw [hg] at hg'
      cases hg'
      have h4 := run_getObj (Q := Q) h2 (by simp)
      have h5 := h3.length
      refine ⟨_, mk_len h1, ?_⟩
      have h6 : ys.size = len es := by rw [len_eq, ← h5]; simp
      simp [Builtin.len_, run_underlying hu, h4, h6]
    · cases h
  · rename_i n el hu
    rw [bi_eq] at h
    obtain ⟨h1, h⟩ := h
    cases h
    rw [Nat.blt_eq] at h1
    exact ⟨_, mk_len h1, by simp [Builtin.len_, run_underlying hu]⟩
  · cases h
theorem cap_ok {t ty : TypeId} {x : V} {X : Value} {v : V} (hx : DV c.ν Γ x X) (h : xCap Q t x = some v) : ∃ z, DV c.ν Γ v z ∧ ∀ w, (Builtin.cap_ #[t] ty #[X]).run Q w = .ok z w := by
  unfold xCap at h
  split at h
  · rename_i el b o l cp hu
    rw [bi_eq] at h
    obtain ⟨h1, h⟩ := h
    cases h
    rw [Nat.blt_eq] at h1
    obtain ⟨g, p, _, ⟨_, rfl⟩, rfl⟩ := dv_slice hx
    exact ⟨_, mk_len h1, fun w => by simp [Builtin.cap_, run_underlying hu]⟩
  · rename_i el hu
    cases h
    rw [dv_nilS hx]
    exact ⟨_, mk_len (by decide), fun w => by simp [Builtin.cap_, run_underlying hu]⟩
  · rename_i el hu
    cases h
    obtain ⟨a, p, hp, rfl⟩ := dv_emp hx
    rw [hp rfl]
    exact ⟨_, mk_len (by decide), fun w => by simp [Builtin.cap_, run_underlying hu]⟩
  · cases h
theorem minR_ok {k : IntKind} {lo hi b n : Nat} (h1 : lo ≤ n) (h2 : n ≤ hi) (hb : posI k b = true) (hh : posI k hi = true) : DV c.ν Γ (minR k lo hi b) (.int k ((if b < n then b else n : Nat) : Int)) := by
  unfold minR
  cases hl : Nat.ble hi b with
  | true =>
    rw [Nat.ble_eq] at hl
    rw [bi_t, if_neg (by omega), DV]
    exact ⟨n, h1, h2, by rw [wrap_pos (posI_of hh h2)]⟩
  | false =>
    rw [bi_f]
    cases hm : Nat.ble b lo with
    | true =>
      rw [Nat.ble_eq] at hm
      rw [bi_t]
      have e : (if b < n then b else n) = b := by split <;> omega
      rw [e]
      exact mk_int (wrap_pos hb)
    | false =>
      have hm' : ¬ b ≤ lo := fun h => by rw [Nat.ble_eq_true_of_le h] at hm; cases hm
      rw [bi_f, DV]
      have e : (if b < n then b else n) ≤ b := by split <;> omega
      exact ⟨_, by split <;> omega, e, by rw [wrap_pos (posI_of hb e)]⟩
theorem maxR_ok {k : IntKind} {lo hi b n : Nat} (h1 : lo ≤ n) (h2 : n ≤ hi) (hb : posI k b = true) (hh : posI k hi = true) : DV c.ν Γ (maxR k lo hi b) (.int k ((if n < b then b else n : Nat) : Int)) := by
  unfold maxR
  cases hl : Nat.ble b lo with
  | true =>
    rw [Nat.ble_eq] at hl
    rw [bi_t, if_neg (by omega), DV]
    exact ⟨n, h1, h2, by rw [wrap_pos (posI_of hh h2)]⟩
  | false =>
    rw [bi_f]
    cases hm : Nat.ble hi b with
    | true =>
      rw [Nat.ble_eq] at hm
      rw [bi_t]
      have e : (if n < b then b else n) = b := by split <;> omega
      rw [e]
      exact mk_int (wrap_pos hb)
    | false =>
      have hm' : ¬ hi ≤ b := fun h => by rw [Nat.ble_eq_true_of_le h] at hm; cases hm
      rw [bi_f, DV]
      have e : (if n < b then b else n) ≤ hi := by split <;> omega
      exact ⟨_, by split <;> omega, e, by rw [wrap_pos (posI_of hh e)]⟩
theorem min2_ok {x y v : V} {X Y : Value} (hx : DV c.ν Γ x X) (hy : DV c.ν Γ y Y) (h : min2 x y = some v) : ∃ z, DV c.ν Γ v z ∧ ∀ w, (Builtin.min2 X Y).run Q w = .ok z w := by
  unfold min2 at h
  split at h
  · rename_i k a q b
    rw [bi_eq] at h
    obtain ⟨h1, h2⟩ := h
    have := kn_inj h1
    subst this
    cases h2
    rw [dv_int hx, dv_int hy]
    cases hl : leI k a b with
    | true =>
      have h3 := hl
      rw [leI_iff, decide_eq_true_iff] at h3
      refine ⟨_, by rw [bi_t]; exact mk_int rfl, fun w => ?_⟩
      have : ¬ k.wrap b < k.wrap a := by omega
      simp [Builtin.min2, this]
    | false =>
      have h3 := hl
      rw [leI_iff, decide_eq_false_iff_not] at h3
      refine ⟨_, by rw [bi_f]; exact mk_int rfl, fun w => ?_⟩
      have : k.wrap b < k.wrap a := by omega
      simp [Builtin.min2, this]
  · rename_i k lo hi q b
    rw [bi_eq, bi_eq, bi_eq] at h
    obtain ⟨h0, h1, h2, h⟩ := h
    have := kn_inj h0
    subst this
    cases h
    obtain ⟨n, hn1, hn2, rfl⟩ := dv_rng hx
    have e1 := wrap_pos (posI_of h2 hn2)
    have e2 := wrap_pos h1
    rw [dv_int hy, e1, e2]
    refine ⟨_, minR_ok hn1 hn2 h1 h2, fun w => ?_⟩
    by_cases hlt : b < n
    · simp [Builtin.min2, hlt]
    · have hlt' : ¬ b < n := hlt
      simp [Builtin.min2, hlt']
  · rename_i q b k lo hi
    rw [bi_eq, bi_eq, bi_eq] at h
    obtain ⟨h0, h1, h2, h⟩ := h
    have := kn_inj h0
    subst this
    cases h
    obtain ⟨n, hn1, hn2, rfl⟩ := dv_rng hy
    have e1 := wrap_pos (posI_of h2 hn2)
    have e2 := wrap_pos h1
    rw [dv_int hx, e1, e2]
    refine ⟨_, minR_ok hn1 hn2 h1 h2, fun w => ?_⟩
    rcases Nat.lt_trichotomy n b with hl | hl | hl
    · have h5 : ¬ b < n := by omega
      simp [Builtin.min2, hl, h5]
    · subst hl
      simp [Builtin.min2]
    · have h5 : ¬ n < b := by omega
      simp [Builtin.min2, hl, h5]
  · exact symMin_ok hx hy h
theorem max2_ok {x y v : V} {X Y : Value} (hx : DV c.ν Γ x X) (hy : DV c.ν Γ y Y) (h : max2 x y = some v) : ∃ z, DV c.ν Γ v z ∧ ∀ w, (Builtin.max2 X Y).run Q w = .ok z w := by
  unfold max2 at h
  split at h
  · rename_i k a q b
    rw [bi_eq] at h
    obtain ⟨h1, h2⟩ := h
    have := kn_inj h1
    subst this
    cases h2
    rw [dv_int hx, dv_int hy]
    cases hl : leI k b a with
    | true =>
      have h3 := hl
      rw [leI_iff, decide_eq_true_iff] at h3
      refine ⟨_, by rw [bi_t]; exact mk_int rfl, fun w => ?_⟩
      have : ¬ k.wrap a < k.wrap b := by omega
      simp [Builtin.max2, this]
    | false =>
      have h3 := hl
      rw [leI_iff, decide_eq_false_iff_not] at h3
      refine ⟨_, by rw [bi_f]; exact mk_int rfl, fun w => ?_⟩
      have : k.wrap a < k.wrap b := by omega
      simp [Builtin.max2, this]
  · rename_i k lo hi q b
    rw [bi_eq, bi_eq, bi_eq] at h
    obtain ⟨h0, h1, h2, h⟩ := h
    have := kn_inj h0
    subst this
    cases h
    obtain ⟨n, hn1, hn2, rfl⟩ := dv_rng hx
    have e1 := wrap_pos (posI_of h2 hn2)
    have e2 := wrap_pos h1
    rw [dv_int hy, e1, e2]
    refine ⟨_, maxR_ok hn1 hn2 h1 h2, fun w => ?_⟩
    by_cases hlt : n < b
    · simp [Builtin.max2, hlt]
    · have hlt' : ¬ n < b := hlt
      simp [Builtin.max2, hlt']
  · rename_i q b k lo hi
    rw [bi_eq, bi_eq, bi_eq] at h
    obtain ⟨h0, h1, h2, h⟩ := h
    have := kn_inj h0
    subst this
    cases h
    obtain ⟨n, hn1, hn2, rfl⟩ := dv_rng hy
    have e1 := wrap_pos (posI_of h2 hn2)
    have e2 := wrap_pos h1
    rw [dv_int hx, e1, e2]
    refine ⟨_, maxR_ok hn1 hn2 h1 h2, fun w => ?_⟩
    rcases Nat.lt_trichotomy n b with hl | hl | hl
    · have h5 : ¬ b < n := by omega
      simp [Builtin.max2, hl, h5]
    · subst hl
      simp [Builtin.max2]
    · have h5 : ¬ n < b := by omega
      simp [Builtin.max2, hl, h5]
  · exact symMax_ok hx hy h
theorem foldO_ok {f : V → V → Option V} {F : Value → Value → Sem Value} (hf : ∀ {x y v : V} {X Y : Value}, DV c.ν Γ x X → DV c.ν Γ y Y → f x y = some v → ∃ z, DV c.ν Γ v z ∧ ∀ w, (F X Y).run Q w = .ok z w) : ∀ (l : List V) (ys : List Value) (x : V) (X : Value) (v : V), DVL c.ν Γ l ys → DV c.ν Γ x X → foldO f l x = some v →
    ∃ z, DV c.ν Γ v z ∧ ∀ w, (ys.foldlM F X).run Q w = .ok z w
  | [], ys, x, X, v, hl, hx, h => by
    rw [DVL] at hl
    subst hl
    cases h
    exact ⟨X, hx, fun w => rfl⟩
  | a :: l, ys, x, X, v, hl, hx, h => by
    rw [DVL] at hl
    obtain ⟨y, s, rfl, h1, h2⟩ := hl
    have h' : ob (f x a) (foldO f l) = some v := h
    rw [ob_eq] at h'
    obtain ⟨u, hu, h'⟩ := h'
    obtain ⟨U, hU, hrun⟩ := hf hx h1 hu
    obtain ⟨z, hz, hrun2⟩ := foldO_ok hf l s u U v h2 hU h'
    exact ⟨z, hz, fun w => by rw [List.foldlM_cons, Sem.run_bind, hrun w]; exact hrun2 w⟩
end Go.Proofs.YtiekoeapmhhjbaaGreatDoor.X
