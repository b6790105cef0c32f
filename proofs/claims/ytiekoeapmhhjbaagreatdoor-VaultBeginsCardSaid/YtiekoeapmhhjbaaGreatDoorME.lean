/- The interpreter is sound: every operation; calls; code. -/
import Derived.KernelRfl
import Derived.LoopNIn
import Derived.RangeFuncIn
import Derived.RangeFuncLeaves
import Derived.RangeFuncRecord
import Derived.Test.YtiekoeapmhhjbaaGreatDoorMD
/- The interpreter is sound, part U: rows that are built, rows that are made; types asked for; the builtins; every operation. -/
namespace Go.Proofs.YtiekoeapmhhjbaaGreatDoor.X
open Go Go.RowKit
set_option linter.unusedVariables false
set_option linter.unusedSimpArgs false
variable {c : Ctx} {Γ Γ' : Gm} {m m' : M} {w w' : World} {ρ : Operand → Value} {e : En} {Q : Program}
theorem new_row (h : Rel c Γ m w) {D : Array Value} {T : TypeId} {n : Nat} {t : Cs} (hs : D.size = n) (hc : Cells c.ν Γ n t 0 D) : ∃ Γ', LeG Γ Γ' ∧ Rel c Γ' (m.add (.cells n t T false)) (w.alloc (.cells D T)) ∧ Γ' m.n = some ⟨w.heap.size, 0, n⟩ := by
  refine ⟨_, LeG.add h.fresh ⟨w.heap.size, 0, n⟩, h.alloc (w' := w.alloc (.cells D T)) (N := n) rfl rfl rfl rfl ⟨D, T, (0, 0), get_push_self _ _, by simp [hs], Nat.le_refl _, fun _ => rfl, fun i _ => by simp, ?_⟩, addG_same _ _ _⟩
  exact hc.mono (LeG.add h.fresh _)
theorem zeroRow_eq {zs : List Value} {l z : Nat} (h : zs.length = z) : (Array.range (l * z)).map (zs.toArray[· % zs.toArray.size]!) = Builtin.zeroCells zs.toArray l := by
  subst h
  rfl
theorem buildSlice_ok (hR : Rel c Γ m w) {t : TypeId} {l : Nat} {ps : List (Nat × V)} {qs : List (Nat × Value)} {v : V} (hl : qs.length = ps.length) (hq : ∀ (j i : Nat) (v : V), ps[j]? = some (i, v) → ∃ x, qs[j]? = some (i, x) ∧ DV c.ν Γ v x) (h : xBuildSlice Q m t l ps = some (v, m')) :
    VOut c Γ v m' w (Instr.buildSlice t l qs.toArray) Q := by
  unfold xBuildSlice at h
  rw [ob_eq] at h
  obtain ⟨⟨el, z⟩, hez, h⟩ := h
  rw [ob_eq] at h
  obtain ⟨zs, hzs, h⟩ := h
  rw [bi_eq, bi_eq, ob_eq] at h
  obtain ⟨h1, h2, tr, htr, h⟩ := h
  rw [frc_eq, allo_eq] at h
  cases h
  dsimp only at hzs h1 h2 htr ⊢
  rw [Nat.beq_eq, len_eq] at h1
  rw [Nat.ble_eq] at h2
  have h2 : l * z ≤ 4096 := h2
  obtain ⟨hu, hz⟩ := elz_eq hez
  dsimp only at hu hz
  obtain ⟨i, zv, ys, hi, hzv, h3, h4, h5⟩ := zeroT_ok2 (c := c) (Γ := Γ) hzs
  have hlen := h3.length
  have hrl : (repL l zs).length = l * z := by
    have := (repL_ok h3 l).length
    rw [← zeroCells_eq, Array.length_toList, size_zeroCells] at this
    simp at this
    rw [← this, hlen, h1]
  have hone : ∀ y ∈ (List.replicate l ys).flatten, y.oneCell' = true := fun y hy => by
    obtain ⟨s, hs, hy⟩ := List.mem_flatten.1 hy
    rw [List.eq_of_mem_replicate hs] at hy
    exact h4 y hy
  have hC := cells_of_list (repL_ok h3 l) hone
  rw [hrl, ← zeroCells_eq, Array.toArray_toList] at hC
  have hsz : (Builtin.zeroCells ys.toArray l).size = l * z := by rw [size_zeroCells]; simp; rw [hlen, h1]
  obtain ⟨D, h6, h7, h8⟩ := fill_ok (pl' := fun i => some (i * z, z)) (fun i q hq => hq) hl hq hsz hC htr
  obtain ⟨Γ', h9, h10, h11⟩ := new_row (T := el) hR h7 h8
  refine ⟨_, _, Γ', h9, h10, mk_slice (o := 0) (p := l) h11 ⟨Nat.le_refl _, rfl⟩, ?_⟩
  have hnb : ¬ (16777216 < l * z) := by omega
  have hrow : ∀ zc : Array Value, (l * z = 0 → zc = #[]) → (l * z ≠ 0 → zc = ys.toArray) → (Array.range (l * z)).map (zc[· % zc.size]!) = Builtin.zeroCells ys.toArray l := fun zc ha hb => by
    by_cases h0 : l * z = 0
    · rw [h0, Array.eq_empty_of_size_eq_zero (xs := Builtin.zeroCells ys.toArray l) (by rw [hsz, h0])]
      simp
    · rw [hb h0]
      exact zeroRow_eq (by rw [hlen, h1])
  by_cases h0 : l * z = 0
  · have := hrow #[] (fun _ => rfl) (fun h => absurd h0 h)
    simp only [Instr.buildSlice]
    simp [run_underlying hu, Sx.run_sizeOf hz, hnb, h0]
    rw [h0] at this
    have h6' := h6
    rw [← this] at h6'
    simp at h6'
    simp [h6', newRow]
  · have := hrow ys.toArray (fun h => absurd h h0) (fun _ => rfl)
    simp only [Instr.buildSlice]
    simp only [Sem.run_bind, run_underlying hu, Result.andThen_ok, Sx.run_sizeOf hz]
    rw [if_neg hnb, if_neg h0]
    simp only [Sem.run_bind, Sem.run_pure, Result.andThen_ok, zeroValue, typeInfo, run_program, hi, hzv, h5]
    rw [this, h6]
    simp [newRow]
theorem OpOK.buildSlice (t : TypeId) (l : Nat) (ps : Array (Nat × Operand)) : OpOK c (.buildSlice t l ps) := fun e m K Γ w ρ dst T pos af gu hR hρ h => by
  have e1 : cOp (.buildSlice t l ps) = ⟨fun e m K => orm (xBuildSlice P m t l (evp e ps.toList)) K⟩ := by kernel_rfl
  rw [e1] at h
  dsimp only at h
  obtain ⟨v, m', hv, hy⟩ := yes_orm h
  obtain ⟨h1, h2⟩ := evp_ok hρ ps.toList
  obtain ⟨z, w', Γ', h3, h4, h6, h7⟩ := buildSlice_ok hR h1 h2 hv
  have h5 : (ps.toList.map fun p => (p.1, ρ p.2)).toArray = ps.map fun (i, x) => (i, ρ x) := by apply Array.ext'; simp
  rw [h5] at h7
  exact ⟨v, m', Γ', z, w', h3, h4, h6, hy, .inl (by simp only [execOp]; simp [h7])⟩
theorem makeSlice_ok (hR : Rel c Γ m w) {t : TypeId} {l k : V} {L C : Value} {v : V} (hl : DV c.ν Γ l L) (hk : DV c.ν Γ k C) (h : xMakeSlice Q m t l k = some (v, m')) : VOut c Γ v m' w (Instr.makeSlice t L C) Q := by
  unfold xMakeSlice at h
  rw [ob_eq] at h
  obtain ⟨ln, hln, h⟩ := h
  rw [ob_eq] at h
  obtain ⟨cn, hcn, h⟩ := h
  rw [ob_eq] at h
  obtain ⟨⟨el, z⟩, hez, h⟩ := h
  rw [ob_eq] at h
  obtain ⟨zs, hzs, h⟩ := h
  rw [ob_eq] at h
  obtain ⟨by_, hby, h⟩ := h
  rw [bi_eq, bi_eq, bi_eq, bi_eq, bi_eq] at h
  obtain ⟨h1, h2, h3, h4, h5, h⟩ := h
  rw [alloC_eq] at h
  cases h
  dsimp only at hzs h1 hby ⊢
  rw [Nat.beq_eq, len_eq] at h1
  rw [Nat.ble_eq] at h2 h3 h4
  have h4 : cn * by_ ≤ 16777216 := h4
  obtain ⟨hu, hz⟩ := elz_eq hez
  dsimp only at hu hz
  obtain ⟨i, zv, ys, hi, hzv, h6, h7, h8⟩ := zeroT_ok2 (c := c) (Γ := Γ) hzs
  have hbi : by_ = i.bytes := by
    unfold byT at hby
    rw [hi] at hby
    cases hby
    rfl
  obtain ⟨q1, rfl⟩ := natV_ok hln hl
  obtain ⟨q2, rfl⟩ := natV_ok hcn hk
  have hlen := h6.length
  have hsz : (Builtin.zeroCells ys.toArray cn).size = cn * z := by rw [size_zeroCells]; simp; rw [hlen, h1]
  have hrl : (repL cn zs).length = cn * z := by
    have := (repL_ok h6 cn).length
    rw [← zeroCells_eq, Array.length_toList, hsz] at this
    exact this.symm
  have hone : ∀ y ∈ (List.replicate cn ys).flatten, y.oneCell' = true := fun y hy => by
    obtain ⟨s, hs, hy⟩ := List.mem_flatten.1 hy
    rw [List.eq_of_mem_replicate hs] at hy
    exact h7 y hy
  have hC := cells_of_list (repL_ok h6 cn) hone
  rw [hrl, ← zeroCells_eq, Array.toArray_toList] at hC
  obtain ⟨Γ', h9, h10, h11⟩ := new_row (T := el) hR hsz hC
  rw [hrl]
  refine ⟨_, _, Γ', h9, h10, mk_slice (o := 0) (p := cn) h11 ⟨h2, rfl⟩, ?_⟩
  have hwl : IntKind.i64.wrap (ln : Int) = ln := wrap_pos (k := .i64) (by unfold posI; rw [Nat.blt_eq]; show ln < 9223372036854775808; omega)
  have hwc : IntKind.i64.wrap (cn : Int) = cn := wrap_pos (k := .i64) (by unfold posI; rw [Nat.blt_eq]; show cn < 9223372036854775808; omega)
  have hb0 : ¬ ((cn : Int) < 0) := by omega
  have hl0 : ¬ ((ln : Int) < 0) := by omega
  have hlc : ¬ ((cn : Int) < ln) := by omega
  have hbb : ¬ (281474976710656 < (i.bytes : Int) * (cn : Int)) := by
    have e1 : ((i.bytes * cn : Nat) : Int) = (i.bytes : Int) * cn := Int.natCast_mul _ _
    have e2 : i.bytes * cn = cn * i.bytes := Nat.mul_comm _ _
    rw [← hbi] at e1 e2 ⊢
    omega
  have hask : (askRoom (cn * i.bytes)).run Q w = .ok () w := by
    unfold askRoom
    rw [if_neg (by unfold roomBytes; rw [← hbi]; omega)]
    rfl
  have hrow : ∀ zc : Array Value, (cn * z = 0 → zc = #[]) → (cn * z ≠ 0 → zc = ys.toArray) → (Array.range (cn * z)).map (zc[· % zc.size]!) = Builtin.zeroCells ys.toArray cn := fun zc ha hb => by
    by_cases h0 : cn * z = 0
    · rw [h0, Array.eq_empty_of_size_eq_zero (xs := Builtin.zeroCells ys.toArray cn) (by rw [hsz, h0])]
      simp
    · rw [hb h0]
      exact zeroRow_eq (by rw [hlen, h1])
  by_cases h0 : cn * z = 0
  · have := hrow #[] (fun _ => rfl) (fun h => absurd h0 h)
    rw [h0] at this
    rw [← this]
    simp [Instr.makeSlice, run_underlying hu, asInt, asIntOf, typeInfo, hi, hwl, hwc, hb0, hl0, hlc, hbb, hask, Sx.run_sizeOf hz, h0, newRow]
  · have := hrow ys.toArray (fun h => absurd h h0) (fun _ => rfl)
    rw [← this]
    simp [Instr.makeSlice, run_underlying hu, asInt, asIntOf, typeInfo, hi, hwl, hwc, hb0, hl0, hlc, hbb, hask, Sx.run_sizeOf hz, h0, zeroValue, hzv, h8, newRow]
theorem OpOK.makeSlice (t : TypeId) (l k : Operand) : OpOK c (.makeSlice t l k) := fun e m K Γ w ρ dst T pos af gu hR hρ h => by
  have e1 : cOp (.makeSlice t l k) = ⟨fun e m K => orm (xMakeSlice P m t (ev l e) (ev k e)) K⟩ := by kernel_rfl
  rw [e1] at h
  dsimp only at h
  obtain ⟨v, m', hv, hy⟩ := yes_orm h
  obtain ⟨z, w', Γ', h1, h2, h3, h4⟩ := makeSlice_ok hR (hρ l) (hρ k) hv
  exact ⟨v, m', Γ', z, w', h1, h2, h3, hy, .inl (by simp [execOp, h4])⟩
theorem mk_pair {v u : V} {x y : Value} (h1 : DV c.ν Γ v x) (h2 : DV c.ν Γ u y) : DV c.ν Γ (.tup [v, u]) (.tuple #[x, y]) := by
  rw [DV]; exact ⟨[x, y], DVL.cons h1 (DVL.cons h2 DVL.nil), rfl⟩
theorem typeAssert_ok {x : V} {X : Value} {xt a : TypeId} {ok : Bool} {v : V} (hx : DV c.ν Γ x X) (h : xTypeAssert Q x a ok = some v) : ∃ z, DV c.ν Γ v z ∧ ∀ w, (Instr.typeAssert X xt a ok).run Q w = .ok z w := by
  unfold xTypeAssert at h
  split at h
  · rename_i t y
    obtain ⟨Y, hY, rfl⟩ := dv_iface hx
    split at h
    · cases h
    · rename_i u hne hu
      have hm : ∀ w, (Instr.typeAssert (.iface t Y) xt a ok).run Q w = ((if t = a then (pure (if ok then .tuple #[Y, .bool true] else Y) : Sem Value) else (do
          if ok then pure (.tuple #[← zeroValue a, .bool false]) else runtimePanic (.typeAssertion (some xt) (some t) a ""))) : Sem Value).run Q w := fun w => by
        unfold Instr.typeAssert
        rw [Sem.run_bind, run_underlying hu]
        cases u <;> first | (exact absurd rfl (hne _)) | rfl
      cases hq : Nat.beq t a with
      | true =>
        rw [hq, bi_t] at h
        cases h
        rw [Nat.beq_eq] at hq
        refine ⟨if ok then .tuple #[Y, .bool true] else Y, ?_, fun w => ?_⟩
        · cases ok
          · exact hY
          · exact mk_pair hY mk_bool
        · rw [hm, if_pos hq]
          rfl
      | false =>
        rw [hq, bi_f, bi_eq, ob_eq] at h
        obtain ⟨rfl, z, hz, h⟩ := h
        cases h
        obtain ⟨zv, h1, h2⟩ := zeroO_ok (c := c) (Γ := Γ) hz
        have hne2 : t ≠ a := fun he => by rw [he, Nat.beq_refl] at hq; cases hq
        refine ⟨_, mk_pair h1 mk_bool, fun w => ?_⟩
        rw [hm, if_neg hne2]
        simp [h2]
    · cases h
  · cases h
theorem OpOK.typeAssert (x : Operand) (xt a : TypeId) (ok : Bool) : OpOK c (.typeAssert x xt a ok) := fun e m K Γ w ρ dst T pos af gu hR hρ h => by
  have e1 : cOp (.typeAssert x xt a ok) = ⟨fun e m K => ovm (xTypeAssert P (ev x e) a ok) m K⟩ := by kernel_rfl
  rw [e1] at h
  dsimp only at h
  obtain ⟨v, hv, hy⟩ := yes_ovm h
  obtain ⟨z, h1, h2⟩ := typeAssert_ok (xt := xt) (hρ x) hv
  exact Out.pure hR hy h1 (by simp [execOp, h2])
/-! ### builtins -/
theorem tyOne_eq {A : Array TypeId} {t : TypeId} (h : tyOne A.toList = some t) : A = #[t] := by
  unfold tyOne at h
  split at h
  · rename_i u hu
    cases h
    apply Array.ext'
    simpa using hu
  · cases h
theorem tyTwo_eq {A : Array TypeId} {t : TypeId × TypeId} (h : tyTwo A.toList = some t) : A = #[t.1, t.2] := by
  unfold tyTwo at h
  split at h
  · rename_i u v hu
    cases h
    apply Array.ext'
    simpa using hu
  · cases h
theorem app_ok (hR : Rel c Γ m w) {t u ty : TypeId} {s x : V} {S X : Value} {v : V} (hs : DV c.ν Γ s S) (hx : DV c.ν Γ x X) (h : xApp Q m t u s x = some (v, m')) : BOut c Γ v m' w (Builtin.append_ #[t, u] ty #[S, X]) Q := by
  unfold xApp at h
  split at h
  · rename_i k hu
    rw [ob_eq] at h
    obtain ⟨n, hn, h⟩ := h
    rw [ob_eq] at h
    obtain ⟨el, hel, h⟩ := h
    rw [ob_eq] at h
    obtain ⟨z, hz, h⟩ := h
    exact make_ok hR hs hx hu hn hel hz h
  · rename_i el hu
    exact appS_ok hR hs hx (.inl ⟨el, hu⟩) h
  · rename_i hu
    exact appS_ok hR hs hx (.inr hu) h
  · cases h
theorem dvl1 {x : V} {xs : List Value} (h : DVL c.ν Γ [x] xs) : ∃ X, xs = [X] ∧ DV c.ν Γ x X := by
  rw [DVL] at h
  obtain ⟨y, s, rfl, h1, h2⟩ := h
  rw [DVL] at h2
  subst h2
  exact ⟨y, rfl, h1⟩
theorem dvl2 {x y : V} {xs : List Value} (h : DVL c.ν Γ [x, y] xs) : ∃ X Y, xs = [X, Y] ∧ DV c.ν Γ x X ∧ DV c.ν Γ y Y := by
  rw [DVL] at h
  obtain ⟨z, s, rfl, h1, h2⟩ := h
  obtain ⟨Y, rfl, h3⟩ := dvl1 h2
  exact ⟨z, Y, rfl, h1, h3⟩
theorem builtin_ok (hR : Rel c Γ m w) {b : Builtin} {tys : Array TypeId} {vs : List V} {xs : List Value} {v : V} {T : TypeId} {cs : Array Bool} (hv : DVL c.ν Γ vs xs) (h : xBuiltin Q m b tys.toList vs = some (v, m')) :
    ∃ x w' Γ', LeG Γ Γ' ∧ Rel c Γ' m' w' ∧ DV c.ν Γ' v x ∧ (builtin b tys T cs xs.toArray).run Q w = .ok (.value x) w' := by
  unfold xBuiltin at h
  split at h
  · rename_i x
    rw [ob_eq] at h
    obtain ⟨t, ht, h⟩ := h
    rw [ob_eq] at h
    obtain ⟨u, hu, h⟩ := h
    cases h
    obtain ⟨X, rfl, hX⟩ := dvl1 hv
    rw [tyOne_eq ht]
    obtain ⟨z, h1, h2⟩ := len_ok (ty := T) hR hX hu
    exact ⟨z, w, Γ, LeG.refl _, hR, h1, by simp [builtin, h2]⟩
  · rename_i x
    rw [ob_eq] at h
    obtain ⟨t, ht, h⟩ := h
    rw [ob_eq] at h
    obtain ⟨u, hu, h⟩ := h
    cases h
    obtain ⟨X, rfl, hX⟩ := dvl1 hv
    rw [tyOne_eq ht]
    obtain ⟨z, h1, h2⟩ := cap_ok (ty := T) hX hu
    exact ⟨z, w, Γ, LeG.refl _, hR, h1, by simp [builtin, h2]⟩
  · rename_i x r
    rw [ob_eq] at h
    obtain ⟨u, hu, h⟩ := h
    cases h
    rw [DVL] at hv
    obtain ⟨X, s, rfl, h1, h2⟩ := hv
    obtain ⟨z, h3, h4⟩ := foldO_ok (Q := Q) (F := Builtin.min2) min2_ok r s x X _ h2 h1 hu
    exact ⟨z, w, Γ, LeG.refl _, hR, h3, by simp [builtin, Builtin.min_, h4]⟩
  · rename_i x r
    rw [ob_eq] at h
    obtain ⟨u, hu, h⟩ := h
    cases h
    rw [DVL] at hv
    obtain ⟨X, s, rfl, h1, h2⟩ := hv
    obtain ⟨z, h3, h4⟩ := foldO_ok (Q := Q) (F := Builtin.max2) max2_ok r s x X _ h2 h1 hu
    exact ⟨z, w, Γ, LeG.refl _, hR, h3, by simp [builtin, Builtin.max_, h4]⟩
  · rename_i s x
    rw [ob_eq] at h
    obtain ⟨t, ht, h⟩ := h
    obtain ⟨S, X, rfl, hS, hX⟩ := dvl2 hv
    rw [tyTwo_eq ht]
    obtain ⟨z, w', Γ', h1, h2, h3, h4⟩ := app_ok (ty := T) hR hS hX h
    exact ⟨z, w', Γ', h1, h2, h3, by simp [builtin, h4]⟩
  · rename_i d s
    rw [ob_eq] at h
    obtain ⟨t, ht, h⟩ := h
    obtain ⟨D, S, rfl, hD, hS⟩ := dvl2 hv
    rw [tyTwo_eq ht]
    obtain ⟨z, w', Γ', h1, h2, h3, h4⟩ := copy_ok (u := t.2) (ty := T) hR hD hS h
    exact ⟨z, w', Γ', h1, h2, h3, by simp [builtin, h4]⟩
  · rename_i x
    rw [ob_eq] at h
    obtain ⟨t, ht, h⟩ := h
    obtain ⟨X, rfl, hX⟩ := dvl1 hv
    rw [tyOne_eq ht]
    obtain ⟨z, w', Γ', h1, h2, h3, h4⟩ := clear_ok (ty := T) hR hX h
    exact ⟨z, w', Γ', h1, h2, h3, by simp [builtin, h4]⟩
  · rename_i x k
    rw [ob_eq] at h
    obtain ⟨t, ht, h⟩ := h
    obtain ⟨X, K, rfl, hX, hK⟩ := dvl2 hv
    rw [tyTwo_eq ht]
    obtain ⟨z, w', Γ', h1, h2, h3, h4⟩ := delete_ok (u := t.2) (ty := T) hR hX hK h
    exact ⟨z, w', Γ', h1, h2, h3, by simp [builtin, h4]⟩
  · cases h
theorem OpOK.builtin (b : Builtin) (args : Array Operand) (tys : Array TypeId) : OpOK c (.call ⟨.builtin b, args, tys⟩) := fun e m K Γ w ρ dst T pos af gu hR hρ h => by
  have e1 : cOp (.call ⟨.builtin b, args, tys⟩) = ⟨fun e m K => orm (xBuiltin P m b tys.toList (evl e args.toList)) K⟩ := by kernel_rfl
  rw [e1] at h
  dsimp only at h
  obtain ⟨v, m', hv, hy⟩ := yes_orm h
  obtain ⟨cs, hcs⟩ : ∃ cs, (execOp ρ ⟨dst, .call ⟨.builtin b, args, tys⟩, T, pos, af, gu⟩).run P w = (Go.builtin b tys T cs (args.map ρ)).run P w := ⟨_, by
    simp only [execOp, resolve, invoke, Sem.run_bind, Sem.run_pure, Result.andThen_ok]
    rfl⟩
  obtain ⟨z, w', Γ', h1, h2, h3, h4⟩ := builtin_ok (T := T) (cs := cs) hR (evl_ok hρ args.toList) hv
  have h5 : (args.toList.map ρ).toArray = args.map ρ := by apply Array.ext'; simp
  rw [h5] at h4
  exact ⟨v, m', Γ', z, w', h1, h2, h3, hy, .inl (hcs.trans h4)⟩
/-- Every operation that calls nothing. -/
theorem opOK (hE : EqTs P) (op : Op) : OpOK c op := by
  cases op with
  | move x => exact OpOK.move x
  | assign x => exact OpOK.assign x
  | pick q a b => exact OpOK.pick q a b
  | alloc t => exact OpOK.alloc t
  | box t x => exact OpOK.box t x
  | build t ps => exact OpOK.build t ps
  | buildSlice t n ps => exact OpOK.buildSlice t n ps
  | insert t x k v => exact OpOK.insert t x k v
  | load t x => exact OpOK.load t x
  | store t a x => exact OpOK.store t a x
  | nilCheck x => exact OpOK.nilCheck x
  | binOp op t x y u => exact OpOK.binOp hE op t x y u
  | unOp op t x => exact OpOK.unOp op t x
  | convert s d x => exact OpOK.convert s d x
  | makeInterface t x => exact OpOK.makeInterface t x
  | makeFunc f a b => exact OpOK.makeFunc f a b
  | makeMap t r => exact OpOK.makeMap t r
  | makeSlice t l k => exact OpOK.makeSlice t l k
  | slice t x lo hi mx => exact OpOK.slice t x lo hi mx
  | fieldAddr t x i => exact OpOK.fieldAddr t x i
  | field t x i => exact OpOK.field t x i
  | indexAddr t x y => exact OpOK.indexAddr t x y
  | index t x y => exact OpOK.index t x y
  | lookup t x k ok => exact OpOK.lookup t x k ok
  | mapUpdate t x k v => exact OpOK.mapUpdate t x k v
  | range t x => exact OpOK.range t x
  | next x s => exact OpOK.next x s
  | entry x => exact OpOK.entry x
  | typeAssert x xt a ok => exact OpOK.typeAssert x xt a ok
  | extract x i => exact OpOK.extract x i
  | call q =>
    obtain ⟨cl, args, tys⟩ := q
    cases cl with
    | builtin b => exact OpOK.builtin b args tys
    | value f => exact fun e m K Γ w ρ dst T pos af gu hR hρ h => (yes_none h).elim
    | invoke r n => exact fun e m K Γ w ρ dst T pos af gu hR hρ h => (yes_none h).elim
  | _ => exact fun e m K Γ w ρ dst T pos af gu hR hρ h => (yes_none h).elim
end Go.Proofs.YtiekoeapmhhjbaaGreatDoor.X
/- The interpreter is sound, part V: operations in a frame; calls; results. -/
namespace Go.Proofs.YtiekoeapmhhjbaaGreatDoor.X
open Go Go.RowKit
set_option linter.unusedVariables false
set_option linter.unusedSimpArgs false
def xOf : Rs → Exit
  | .normal => .normal
  | .exit id => .exit id
  | .ret => .ret
abbrev Fw (rd : Option Nat) : Fence := Sx.Fw rd
variable {c : Ctx} {Γ Γ' : Gm} {m m' : M} {w w' : World} {ρ : Operand → Value} {e : En} {a : Act} {ds : List Nat} {sz : Nat}
def GoesN (c : Ctx) (Γ : Gm) (sz : Nat) (Kn : Kn) (Q : Exit → Act → World → Prop) : Prop := ∀ Γ' e' ds' m' a' w', LeG Γ Γ' → Rel c Γ' m' w' → HasE c.ν Γ' sz e' ds' a' → Yes (Kn e' ds' m') → Q .normal a' w'
def GoesX (c : Ctx) (Γ : Gm) (sz : Nat) (Kx : Kx) (Q : Exit → Act → World → Prop) : Prop := ∀ r Γ' e' ds' m' a' w', r ≠ Rs.normal → LeG Γ Γ' → Rel c Γ' m' w' → HasE c.ν Γ' sz e' ds' a' → Yes (Kx r e' ds' m') → Q (xOf r) a' w'
theorem GoesN.mono {Kn : Kn} {Q : Exit → Act → World → Prop} (h : GoesN c Γ sz Kn Q) (hl : LeG Γ Γ') : GoesN c Γ' sz Kn Q := fun G e d m a w hl2 => h G e d m a w (hl.trans hl2)
theorem GoesX.mono {Kx : Kx} {Q : Exit → Act → World → Prop} (h : GoesX c Γ sz Kx Q) (hl : LeG Γ Γ') : GoesX c Γ' sz Kx Q := fun r G e d m a w hr hl2 => h r G e d m a w hr (hl.trans hl2)
theorem rne : Rs.ret ≠ Rs.normal := nofun
theorem xne {i : Nat} : Rs.exit i ≠ Rs.normal := nofun
/-- What runs code is sound for what is to be shown of the code. -/
def SndC (X : Cf) (S : Option Nat → (Exit → Act → World → Prop) → Act → World → Prop) : Prop :=
  ∀ (c : Ctx) (sz : Nat) (rd rdp : Option Nat) (e : En) (ds : List Nat) (m : M) (Kn : Kn) (Kx : Kx) (Γ : Gm) (a : Act) (w : World) (Q : Exit → Act → World → Prop),
    rd.isNone = rdp.isNone → Rel c Γ m w → HasE c.ν Γ sz e ds a → GoesN c Γ sz Kn Q → GoesX c Γ sz Kx Q → Yes (X sz rd e ds m Kn Kx) → S rdp Q a w
def Snd (n : Nat) (X : Ex) : Prop := (∀ q, SndC (X q) (fun rdp Q a w => q.wpIn (Fw rdp) 0 P Q a w)) ∧ ∀ q, SndC (X (.loop q)) (fun rdp Q a w => Code.roundsIn (Fw rdp) 0 P q Q n a w)
/-- Where a call ends. -/
def Ends (c : Ctx) (Γ : Gm) (K : Kt) : Ending → World → Prop := fun x w' => ∃ v y m' Γ', x = .returned y ∧ LeG Γ Γ' ∧ Rel c Γ' m' w' ∧ DV c.ν Γ' v y ∧ Yes (K v m')
def CallOK (c : Ctx) (Γ : Gm) (K : Kt) (f : FuncId) (args : List Value) (w : World) : Prop := ∃ fn, P.funcs[f]? = some fn ∧
  ((fn.body.isNone = false ∧ Calls P f args.toArray w (Ends c Γ K)) ∨ (fn.body.isNone = true ∧ ∃ v y m' Γ' w', LeG Γ Γ' ∧ Rel c Γ' m' w' ∧ DV c.ν Γ' v y ∧ Yes (K v m') ∧ (callFunc f args.toArray).run P w = .ok (.value y) w'))
def SndFn (f : FuncId) (g : M → List V → Kt → A) : Prop := ∀ (c : Ctx) m vs K Γ w args, Rel c Γ m w → DVL c.ν Γ vs args → Yes (g m vs K) → CallOK c Γ K f args w
def HkOK (h : Hk) : Prop := ∀ f g, h f = some g → ∀ n X, Snd n X → SndFn f (g X)
def ExtOK : Prop := ∀ (c : Ctx) (f : FuncId) (fn : Func) m vs v m' Γ w args, P.funcs[f]? = some fn → fn.body = none → Rel c Γ m w → DVL c.ν Γ vs args → extern fn f m vs = some (v, m') →
  ∃ y Γ' w', LeG Γ Γ' ∧ Rel c Γ' m' w' ∧ DV c.ν Γ' v y ∧ (callFunc f args.toArray).run P w = .ok (.value y) w'
def NameOK : Prop := ∀ (f : FuncId) (fn : Func), P.funcs[f]? = some fn → fn.body.isNone = false → fn.name ≠ "runtime.NumGoroutine"
structure Facts : Prop where
  eqTs : EqTs P
  ext : ExtOK
  name : NameOK
  mixed : P.follows .mixedOrders = true

/-! ### the frame of a call -/
theorem wrE_get : ∀ (vs : List V) (t : En) (o i : Nat), ((i < o ∨ o + vs.length ≤ i) → gE i (wrE vs t o) = gE i t) ∧ (∀ j v, vs[j]? = some v → gE (o + j) (wrE vs t o) = v ∨ gE (o + j) (wrE vs t o) = .any)
  | [], t, o, i => ⟨fun _ => rfl, fun j v h => by simp at h⟩
  | x :: r, t, o, i => by
    have hd : wrE (x :: r) t o = wrE r (uE o x t) (o + 1) := rfl
    rw [hd]
    refine ⟨fun h => ?_, fun j v h => ?_⟩
    · rw [(wrE_get r (uE o x t) (o + 1) i).1 (by simp at h; omega), gE_ne]
      rintro rfl
      simp at h
      omega
    · cases j with
      | zero =>
        simp at h
        subst h
        have := (wrE_get r (uE o x t) (o + 1) o).1 (.inl (Nat.lt_succ_self _))
        rw [Nat.add_zero, this]
        exact gE_same o x t
      | succ j =>
        simp at h
        have := (wrE_get r (uE o x t) (o + 1) i).2 j v h
        rw [show o + 1 + j = o + (j + 1) from by omega] at this
        exact this
theorem hasE_args {ν : Nat → Value → Prop} {vs : List V} {args : List Value} {n : Nat} (h : DVL ν Γ vs args) (hn : vs.length ≤ n) : HasE ν Γ n (argT vs) [] { tmps := args.toArray ++ Array.replicate (n - args.toArray.size) undef, defers := [] } := by
  have hl := h.length
  refine ⟨by simp; omega, fun t => ?_, [], rfl, rfl⟩
  by_cases ht : t < vs.length
  · obtain ⟨y, hy, hv⟩ := h.get (List.getElem?_eq_getElem ht)
    have e1 : (args.toArray ++ Array.replicate (n - args.toArray.size) undef).getD t undef = y := by
      rw [Array.getD_eq_getD_getElem?, Array.getElem?_append_left (by simp; omega), List.getElem?_toArray, hy]
      rfl
    rw [e1]
    have := (wrE_get vs en0 0 t).2 t _ (List.getElem?_eq_getElem ht)
    rw [Nat.zero_add] at this
    unfold argT
    rcases this with e2 | e2
    · rw [e2]; exact hv
    · rw [e2, DV]; trivial
  · have e2 : gE t (argT vs) = .any := by
      unfold argT
      rw [(wrE_get vs en0 0 t).1 (.inr (by omega)), gE_en0]
    rw [e2, DV]
    trivial
/-! ### the end of a call -/
theorem ownB_def : ownB .deferred := ⟨by simp, by simp⟩
theorem shut_ok : ∀ {ds : List Nat} {m m' : M} {w : World} {l : List Nat}, Rel c Γ m w → Mks Γ ds l → shut ds m = some m' → ∃ w', Rel c Γ m' w' ∧ Sx.Shut l w w'
  | [], m, m', w, l, hR, hl, h => by
    have hl' : l = [] := hl
    subst hl'
    cases h
    exact ⟨w, hR, .nil w⟩
  | d :: ds, m, m', w, l, hR, hl, h => by
    obtain ⟨b, s, rfl, ⟨g, hg, rfl⟩, h2⟩ := hl
    have h' : (match m.get d with | .deferred => shut ds (m.kill d) | _ => none) = some m' := h
    cases hb : m.get d <;> rw [hb] at h' <;> first | (cases h'; done) | skip
    have h3 : shut ds (m.kill d) = some m' := h'
    obtain ⟨g', hg', hk⟩ := hR.hold d (by rw [hb]; simp)
    rw [hg] at hg'
    cases hg'
    rw [hb] at hk
    have hk' : w.heap[g.blk]? = some (.deferred (some [])) := hk
    have hR' : Rel c Γ (m.kill d) (w.putObj g.blk (.deferred none)) := hR.put (b := .dead) hg (by rw [hb]; exact ownB_def) rfl rfl rfl (by simp) (fun j hj => World.putObj_heap_other hj) trivial
    obtain ⟨w', h4, h5⟩ := shut_ok hR' h2 h3
    exact ⟨w', h4, .cons hk' h5⟩
def rv (tmps : Array Value) : ResultVar → Sem Value
  | .tmp t => pure (tmps.getD t undef)
  | .cell a t => do loadVar t (← asAddr (tmps.getD a undef))
theorem onRead_bi {B : Type} {b : Blk} {p : Nat → Cs → Bool} {F : Nat → Cs → V} (K : V → B) (z : B) : b.onRead (fun q t => bi (p q t) (K (F q t)) z) z = oc (b.onRead (fun q t => bi (p q t) (some (F q t)) none) none) z K := by
  cases b with
  | cells n t T fz =>
    show bi (p n t) (K (F n t)) z = oc (bi (p n t) (some (F n t)) none) z K
    cases p n t <;> rfl
  | tab n t =>
    show bi (p n t) (K (F n t)) z = oc (bi (p n t) (some (F n t)) none) z K
    cases p n t <;> rfl
  | _ => rfl
theorem loadK_oc {Q : Program} {t : TypeId} {b o : Nat} {B : Type} (K : V → B) (z : B) : loadK Q t m b o K z = oc (loadK Q t m b o (fun v => some v) none) z K := by
  unfold loadK
  cases ldT Q t with
  | bad => rfl
  | one => exact onRead_bi (p := fun q t => Nat.blt o q) (F := fun q t => gC o t) K z
  | agg n => exact onRead_bi (p := fun q t => Nat.ble (Nat.add o n) q) (F := fun q t => .agg (rdT t n o)) K z
theorem load_some {Q : Program} (hR : Rel c Γ m w) {t : TypeId} {b o : Nat} {v : V} (h : loadK Q t m b o (fun v => some v) none = some v) : ∃ x g, Γ b = some g ∧ DV c.ν Γ v x ∧ (loadVar t ⟨g.blk, g.sh + o, none⟩).run Q w = .ok x w := by
  classical
  have hy : Yes (loadK Q t m b o (fun u => if u = v then (some (u, m) : A) else none) none) := by
    rw [loadK_oc, h]
    show Yes (if v = v then (some (v, m) : A) else none)
    rw [if_pos rfl]
    exact ⟨_, rfl⟩
  obtain ⟨v', x, g, hg, hx, hv, hr⟩ := load_ok (Q := Q) hR hy
  by_cases he : v' = v
  · subst he
    exact ⟨x, g, hg, hx, hr⟩
  · rw [if_neg he] at hv
    exact (yes_none hv).elim
theorem onPtr_some {B : Type} {v : V} {K : Nat → Nat → Option B} {x : B} (h : v.onPtr K none = some x) : ∃ b o, v = .ptr b o ∧ K b o = some x := by
  cases v <;> first | (cases h; done) | exact ⟨_, _, rfl, h⟩
theorem resV_ok (hR : Rel c Γ m w) (ha : HasE c.ν Γ sz e ds a) {r : ResultVar} {v : V} (h : resV e m r = some v) : ∃ x, DV c.ν Γ v x ∧ (rv a.tmps r).run P w = .ok x w := by
  cases r with
  | tmp t =>
    cases h
    exact ⟨_, ha.at_ t, rfl⟩
  | cell t ty =>
    have h' : (gE t e).onPtr (fun b o => loadK P ty m b o (fun v => some v) none) none = some v := h
    have ht := ha.at_ t
    obtain ⟨b, o, hv, h2⟩ := onPtr_some h'
    rw [hv] at ht
    obtain ⟨x, g, hg, hx, hr⟩ := load_some hR h2
    obtain ⟨g', hg', hp⟩ := dv_ptr ht
    rw [hg] at hg'
    cases hg'
    refine ⟨x, hx, ?_⟩
    simp only [rv, hp, asAddr, Sem.run_bind, Sem.run_pure, Result.andThen_ok]
    exact hr
theorem resL_ok (hR : Rel c Γ m w) (ha : HasE c.ν Γ sz e ds a) : ∀ {l : List ResultVar} {vs : List V}, resL e m l = some vs → ∃ xs, DVL c.ν Γ vs xs ∧ (l.mapM (rv a.tmps)).run P w = .ok xs w
  | [], vs, h => by
    cases h
    exact ⟨[], DVL.nil, by simp⟩
  | r :: l, vs, h => by
    have h' : ob (resV e m r) (fun a => ob (resL e m l) fun b => some (a :: b)) = some vs := h
    rw [ob_eq] at h'
    obtain ⟨v, h1, h2⟩ := h'
    rw [ob_eq] at h2
    obtain ⟨us, h3, h4⟩ := h2
    cases h4
    obtain ⟨x, hx, hr⟩ := resV_ok hR ha h1
    obtain ⟨xs, hxs, hrs⟩ := resL_ok hR ha h3
    refine ⟨x :: xs, DVL.cons hx hxs, ?_⟩
    rw [List.mapM_cons, Sem.run_bind, hr, Result.andThen_ok, Sem.run_bind, hrs]
    simp
theorem results_ok (hR : Rel c Γ m w) (ha : HasE c.ν Γ sz e ds a) {fn : Func} {vs : List V} (h : resL e m fn.results.toList = some vs) : ∃ x, DV c.ν Γ (tupV vs) x ∧ (results fn a.tmps).run P w = .ok x w := by
  obtain ⟨xs, hxs, hr⟩ := resL_ok hR ha h
  have h0 : results fn a.tmps = (do let vs ← fn.results.mapM (rv a.tmps); pure (if h : vs.size = 1 then vs[0] else .tuple vs)) := by
    unfold results
    congr 2
  have h2 : (fn.results.mapM (rv a.tmps)).run P w = .ok xs.toArray w := by
    rw [Array.mapM_eq_mapM_toList]
    show ((List.mapM (rv a.tmps) fn.results.toList) >>= fun l => (pure l.toArray : Sem _)).run P w = _
    rw [Sem.run_bind, hr]
    simp
  cases vs with
  | nil =>
    rw [DVL] at hxs
    subst hxs
    refine ⟨.tuple #[], mk_tup0, ?_⟩
    rw [h0, Sem.run_bind, h2]
    rfl
  | cons v r =>
    cases r with
    | nil =>
      obtain ⟨x, rfl, hx⟩ := dvl1 hxs
      refine ⟨x, hx, ?_⟩
      rw [h0, Sem.run_bind, h2]
      rfl
    | cons u r =>
      refine ⟨.tuple xs.toArray, ?_, ?_⟩
      · show DV c.ν Γ (.tup (v :: u :: r)) _
        rw [DV]
        exact ⟨xs, hxs, rfl⟩
      · have hl := hxs.length
        rw [h0, Sem.run_bind, h2]
        simp only [Result.andThen_ok, Sem.run_pure]
        rw [dif_neg (by simp at hl ⊢; omega)]
theorem end_ok {Γ0 : Gm} (hl : LeG Γ0 Γ) (hR : Rel c Γ m w) (ha : HasE c.ν Γ sz e ds a) {fn : Func} {K : Kt} (hy : Yes (endF fn.results.toList K e ds m)) : LeavesInM (Fw none) 0 P fn a.tmps (Ends c Γ0 K) a.defers .returning w := by
  have hy' : Yes (oc (shut ds m) none fun m => oc (resL e m fn.results.toList) none fun l => K (tupV l) m) := hy
  obtain ⟨m1, h1, h2⟩ := yes_oc hy'
  obtain ⟨l, h3, h4⟩ := yes_oc h2
  obtain ⟨L, hL, hM⟩ := ha.defers
  obtain ⟨w1, hR1, hS⟩ := shut_ok hR hM h1
  obtain ⟨x, hx, hr⟩ := results_ok hR1 ha h3
  rw [hL]
  exact Sx.leaves_of_shut hS hr ⟨_, x, m1, Γ, rfl, hl, hR1, hx, h4⟩
/-! ### calls -/
theorem funOf_eq {f : Nat} {fn : Func} (h : funOf f = some fn) : P.funcs[f]? = some fn := by
  unfold funOf at h
  rwa [Array.getElem?_toList] at h
theorem cFun_none {f : Nat} (hf : funOf f = none) : cFun f = ⟨fun _ _ _ _ => none⟩ := by
  unfold cFun
  rw [hf]
theorem cFun_ext {f : Nat} {fn : Func} (hf : funOf f = some fn) (hb : fn.body = none) : cFun f = ⟨fun _ m vs K => orm (extern fn f m vs) K⟩ := by
  unfold cFun
  rw [hf]
  show Option.rec (motive := fun _ => Bx Fnf) _ _ fn.body = _
  rw [hb]
theorem cFun_some {f : Nat} {fn : Func} {q : Code} (hf : funOf f = some fn) (hb : fn.body = some q) :
    cFun f = ⟨fun X m vs K => bi (Nat.ble (len vs) fn.ntmps) (X q fn.ntmps none (argT vs) [] m (endF fn.results.toList K) (retK (endF fn.results.toList K))) none⟩ := by
  unfold cFun
  rw [hf]
  show Option.rec (motive := fun _ => Bx Fnf) _ _ fn.body = _
  rw [hb]
theorem cFun_ok (hF : Facts) {n : Nat} {X : Ex} (hX : Snd n X) {f : Nat} {vs : List V} {args : List Value} {K : Kt} (hR : Rel c Γ m w) (hv : DVL c.ν Γ vs args) (hy : Yes ((cFun f).f X m vs K)) : CallOK c Γ K f args w := by
  cases hf : funOf f with
  | none =>
    rw [cFun_none hf] at hy
    exact (yes_none hy).elim
  | some fn =>
    cases hb : fn.body with
    | none =>
      rw [cFun_ext hf hb] at hy
      obtain ⟨v, m', h1, h2⟩ := yes_orm hy
      obtain ⟨y, Γ', w', hl, hR', hy', hr⟩ := hF.ext c f fn m vs v m' Γ w args (funOf_eq hf) hb hR hv h1
      exact ⟨fn, funOf_eq hf, .inr ⟨by rw [hb]; rfl, v, y, m', Γ', w', hl, hR', hy', h2, hr⟩⟩
    | some q =>
      rw [cFun_some hf hb] at hy
      obtain ⟨h1, h2⟩ := yes_bi hy
      refine ⟨fn, funOf_eq hf, .inl ⟨by rw [hb]; rfl, (callsIn_wide (n := 0)).1 (callsIn_of_wp_marks (F := Fw none) (funOf_eq hf) hb trivial ?_ rfl)⟩⟩
      have ha := hasE_args (ν := c.ν) hv (n := fn.ntmps) (by rw [len_eq] at h1; exact Nat.le_of_ble_eq_true h1)
      refine hX.1 q c fn.ntmps none none (argT vs) [] m _ _ Γ _ w _ rfl hR ha ?_ ?_ h2
      · intro Γ' e' ds' m' a' w' hl hR' ha' hy'
        exact end_ok hl hR' ha' hy'
      · intro r Γ' e' ds' m' a' w' hne hl hR' ha' hy'
        cases r with
        | ret => exact end_ok hl hR' ha' hy'
        | _ => exact (yes_none hy').elim
theorem callF_none {h : Hk} {X : Ex} {f : Nat} {vs : List V} {K : Kt} (hg : h f = none) : callF h X m f vs K = (cFun f).f X m vs K := by
  unfold callF
  rw [hg]
theorem callF_some {h : Hk} {X : Ex} {f : Nat} {vs : List V} {K : Kt} {g : Fnf} (hg : h f = some g) : callF h X m f vs K = g X m vs K := by
  unfold callF
  rw [hg]
theorem callF_ok (hF : Facts) {h : Hk} (hh : HkOK h) {n : Nat} {X : Ex} (hX : Snd n X) {f : Nat} {vs : List V} {args : List Value} {K : Kt} (hR : Rel c Γ m w) (hv : DVL c.ν Γ vs args) (hy : Yes (callF h X m f vs K)) : CallOK c Γ K f args w := by
  cases hg : h f with
  | none =>
    rw [callF_none hg] at hy
    exact cFun_ok hF hX hR hv hy
  | some g =>
    rw [callF_some hg] at hy
    exact hh f g hg n X hX c m vs K Γ w args hR hv hy
/-! ### rounds -/
theorem yes_onLoop {b : Blk} {K : Nat → Option Code → En → Nat → List Tmp → Code → Code → A} (h : Yes (onLoop b K none)) : ∃ st p t sz ps asg body, b = .loop st p t sz ps asg body ∧ Yes (K st p t sz ps asg body) := by
  cases b <;> first | exact (yes_none h).elim | exact ⟨_, _, _, _, _, _, _, rfl, h⟩
theorem loop_at (hR : Rel c Γ m w) {l st : Nat} {p : Option Code} {t : En} {ps : List Tmp} {asg body : Code} (hl : m.get l = .loop st p t sz ps asg body) :
    ∃ g r, Γ l = some g ∧ w.heap[g.blk]? = some (.loop r) ∧ stN r.state = st ∧ r.pending = p ∧ r.tmps.size = sz ∧ (∀ i, DV c.ν Γ (gE i t) (r.tmps.getD i undef)) ∧ r.params.toList = ps ∧ r.assign = asg ∧ r.body = body := by
  obtain ⟨g, hg, hk⟩ := hR.hold l (by rw [hl]; simp)
  rw [hl] at hk
  obtain ⟨r, h1, h2⟩ := hk
  exact ⟨g, r, hg, h1, h2⟩
theorem loop_put (hR : Rel c Γ m w) {l st : Nat} {p : Option Code} {t : En} {ps : List Tmp} {asg body : Code} (hl : m.get l = .loop st p t sz ps asg body) {g : G} (hg : Γ l = some g) {r r' : Loop} (hr : w.heap[g.blk]? = some (.loop r))
    (htm : r'.tmps.size = sz ∧ (∀ i, DV c.ν Γ (gE i t) (r'.tmps.getD i undef)) ∧ r'.params.toList = ps ∧ r'.assign = asg ∧ r'.body = body) :
    Rel c Γ (m.put l (.loop (stN r'.state) r'.pending t sz ps asg body)) (w.putObj g.blk (.loop r')) := by
  have hlt : g.blk < w.heap.size := (Array.getElem?_eq_some_iff.1 hr).1
  refine hR.put hg (by rw [hl]; exact ⟨by simp, by simp⟩) rfl rfl rfl (by simp) (fun j hj => World.putObj_heap_other hj) ⟨r', ?_, rfl, rfl, htm⟩
  exact World.putObj_heap_same hlt
theorem endR_ok {Γ0 : Gm} (hl : LeG Γ0 Γ) (hR : Rel c Γ m w) {l : Nat} {g : G} (hg : Γ l = some g) {pend : Option Code} {K : Kt} (hy : Yes (endR l m pend K)) :
    ∃ v w', (Instr.endRound g.blk pend).run P w = .ok v w' ∧ Ends c Γ0 K (.returned v) w' := by
  unfold endR at hy
  obtain ⟨st, p, t, sz, ps, asg, body, hb, hy⟩ := yes_onLoop hy
  obtain ⟨hst, hy⟩ := yes_bi hy
  obtain ⟨g', r, hg', hr, h1, h2, h3⟩ := loop_at hR hb
  rw [hg] at hg'
  cases hg'
  have hrun := run_endRound (P := P) pend hr
  cases pend with
  | none =>
    refine ⟨_, _, hrun, .bool true, .bool true, _, Γ, rfl, hl, loop_put (r' := { r with state := .ready, pending := none }) hR hb hg hr h3, mk_bool, hy⟩
  | some q =>
    refine ⟨_, _, hrun, .bool false, .bool false, _, Γ, rfl, hl, loop_put (r' := { r with state := .done, pending := some q }) hR hb hg hr h3, mk_bool, hy⟩
theorem setPs_ok {ν : Nat → Value → Prop} : ∀ {ps : List Tmp} {vs : List V} {args : List Value} {t e : En} {tm : Array Value}, DVL ν Γ vs args → HasE ν Γ sz t [] { tmps := tm, defers := [] } → setPs sz ps vs t = some e →
    args.length = ps.length ∧ HasE ν Γ sz e [] { tmps := (ps.zip args).foldl (fun t (p, v) => t.setIfInBounds p v) tm, defers := [] }
  | [], [], args, t, e, tm, hv, ht, h => by
    rw [DVL] at hv
    subst hv
    cases h
    exact ⟨rfl, ht⟩
  | [], v :: vs, args, t, e, tm, hv, ht, h => by cases h
  | p :: ps, [], args, t, e, tm, hv, ht, h => by cases h
  | p :: ps, v :: vs, args, t, e, tm, hv, ht, h => by
    have h' : bi (Nat.blt p sz) (setPs sz ps vs (uE p v t)) none = some e := h
    rw [bi_eq] at h'
    rw [DVL] at hv
    obtain ⟨y, s, rfl, h1, h2⟩ := hv
    have ht2 : HasE ν Γ sz (uE p v t) [] { tmps := tm.setIfInBounds p y, defers := [] } := ht.put (by have := h'.1; rwa [Nat.blt_eq] at this) h1
    have := setPs_ok h2 ht2 h'.2
    exact ⟨by simp [this.1], this.2⟩
theorem round_ok {n : Nat} {X : Ex} (hX : Snd n X) (hR : Rel c Γ m w) {l : Nat} {g : G} (hg : Γ l = some g) {vs : List V} {args : List Value} (hv : DVL c.ν Γ vs args) {K : Kt} (hy : Yes (roundF X m l vs K)) (rdp : Option Nat) :
    ∃ fn tmps asg body, (Instr.yield g.blk args.toArray).run P w = .ok (.round g.blk fn tmps asg body) w ∧ RoundIn (Fw rdp) (0 - 1) P g.blk fn tmps asg body w (Ends c Γ K) := by
  unfold roundF at hy
  obtain ⟨st, p, t, sz, ps, asg, body, hb, hy⟩ := yes_onLoop hy
  obtain ⟨hst, hy⟩ := yes_bi hy
  obtain ⟨e, he, hy⟩ := yes_oc hy
  obtain ⟨g', r, hg', hr, h1, h2, h3, h4, h5, h6, h7⟩ := loop_at hR hb
  rw [hg] at hg'
  cases hg'
  have ht : HasE c.ν Γ sz t [] { tmps := r.tmps, defers := [] } := ⟨h3, h4, [], rfl, rfl⟩
  obtain ⟨hlen, hE⟩ := setPs_ok hv ht he
  have hy2 := run_yield (P := P) (args := args.toArray) hr (by rw [← h5, Array.length_toList] at hlen; simpa using hlen)
  refine ⟨_, _, _, _, hy2, roundIn_of_wpIn (F := Fw rdp) trivial ?_⟩
  have etm : (r.params.zip args.toArray).foldl (fun tmps (t, a) => tmps.setIfInBounds t a) r.tmps = (ps.zip args).foldl (fun t (p, v) => t.setIfInBounds p v) r.tmps := by
    rw [← Array.foldl_toList, Array.toList_zip, h5]
  rw [etm, h6, h7]
  refine hX.1 asg c sz (some l) (some g.blk) e [] m _ _ Γ _ w _ rfl hR hE ?_ ?_ hy
  · intro Γ1 e1 ds1 m1 a1 w1 hl1 hR1 ha1 hy1
    obtain ⟨st1, p1, t1, sz1, ps1, asg1, body1, hb1, hy1⟩ := yes_onLoop hy1
    obtain ⟨hst1, hy1⟩ := yes_bi hy1
    obtain ⟨g1, r1, hg1, hr1, k1, k2, k3⟩ := loop_at hR1 hb1
    rw [hl1 _ _ hg] at hg1
    cases hg1
    have hready : r1.state = .ready := by
      have e0 : stN r1.state = 0 := by rw [k1]; exact Nat.eq_of_beq_eq_true hst1
      cases hs : r1.state <;> rw [hs] at e0 <;> first | rfl | cases e0
    refine ⟨_, run_beginRound (P := P) hr1 hready, ?_⟩
    have hR2 := loop_put (r' := { r1 with state := .busy }) hR1 hb1 (hl1 _ _ hg) hr1 k3
    have hR2' : Rel c Γ1 (m1.put l (.loop 1 p1 t1 sz1 ps1 asg1 body1)) (w1.putObj g.blk (.loop { r1 with state := .busy })) := by
      have : r1.pending = p1 := k2
      rw [← this]
      exact hR2
    refine hX.1 body c sz (some l) (some g.blk) e1 ds1 _ _ _ Γ1 a1 _ _ rfl hR2' ha1 ?_ ?_ hy1
    · intro Γ2 e2 ds2 m2 a2 w2 hl2 hR3 ha2 hy2
      exact endR_ok (hl1.trans hl2) hR3 (hl2 _ _ (hl1 _ _ hg)) hy2
    · intro q Γ2 e2 ds2 m2 a2 w2 hne hl2 hR3 ha2 hy2
      cases q with
      | normal => exact (yes_none hy2).elim
      | exit id => exact endR_ok (hl1.trans hl2) hR3 (hl2 _ _ (hl1 _ _ hg)) hy2
      | ret => exact endR_ok (hl1.trans hl2) hR3 (hl2 _ _ (hl1 _ _ hg)) hy2
  · intro q Γ1 e1 ds1 m1 a1 w1 hne hl1 hR1 ha1 hy1
    exact (yes_none hy1).elim
end Go.Proofs.YtiekoeapmhhjbaaGreatDoor.X
/- The interpreter is sound, part W: operations in a frame; lists of them; ranges over functions. -/
namespace Go.Proofs.YtiekoeapmhhjbaaGreatDoor.X
open Go Go.RowKit
set_option linter.unusedVariables false
set_option linter.unusedSimpArgs false
variable {c : Ctx} {Γ Γ' : Gm} {m m' : M} {w w' : World} {e : En} {a : Act} {ds : List Nat} {sz : Nat}
/-- What is to follow an operation. -/
def Nx (c : Ctx) (Γ : Gm) (a : Act) (dst : Option Tmp) (K : Kt) (next : Act → World → Prop) : Prop := ∀ v m' Γ' x w', LeG Γ Γ' → Rel c Γ' m' w' → DV c.ν Γ' v x → Yes (K v m') → next (a.put dst x) w'
theorem lapp_nil {α : Type} (a : List α) : lapp a [] = a := by rw [lapp_eq, List.append_nil]
theorem callFunc_enterQ {Q : Program} {f : FuncId} {fn : Func} (hf : Q.funcs[f]? = some fn) (hn : ¬ fn.name = "runtime.NumGoroutine") (hb : ¬ fn.body = none) (args : Array Value) (w : World) : (callFunc f args).run Q w = .ok (.enter f args) w := by
  simp [callFunc, hf, hn, hb]
theorem callFunc_enter (hF : Facts) {f : FuncId} {fn : Func} (hf : P.funcs[f]? = some fn) (hb : fn.body.isNone = false) (args : Array Value) (w : World) : (callFunc f args).run P w = .ok (.enter f args) w :=
  callFunc_enterQ hf (hF.name f fn hf hb) (fun h => by simp [h] at hb) args w
theorem enter_wp (hF : Facts) {ρ : Operand → Value} {K : Kt} {f : FuncId} {args : List Value} (hc : CallOK c Γ K f args w) {o : Oper} {rdp : Option Nat} {next : Act → World → Prop} {Q : Exit → Act → World → Prop} (hx : Nx c Γ a o.dst K next)
    (hrun : (execOp ρ o).run P w = (callFunc f args.toArray).run P w) : o.uponIn (Fw rdp) 0 P a next Q ((execOp ρ o).run P w) := by
  obtain ⟨fn, hf, ⟨hb, hC⟩ | ⟨hb, v, y, m', Γ', w', hl, hR', hy, hK, hr⟩⟩ := hc
  · rw [hrun, callFunc_enter hF hf hb, Oper.uponIn_enter]
    refine ⟨fun h => (by cases h), (Sx.callsW rdp _ hC).mono fun x w' hE => ?_⟩
    obtain ⟨v, y, m', Γ', rfl, hl, hR', hy, hK⟩ := hE
    exact hx v m' Γ' y w' hl hR' hy hK
  · rw [hrun, hr, Oper.uponIn_value]
    exact hx v m' Γ' y w' hl hR' hy hK
theorem callV_wp (hF : Facts) {h : Hk} (hh : HkOK h) {n : Nat} {X : Ex} (hX : Snd n X) (hR : Rel c Γ m w) {ρ : Operand → Value} (hρ : ∀ x, DV c.ν Γ (ev x e) (ρ x)) {o : Oper} {f : Operand} {args : Array Operand} {tys : Array TypeId} (ho : o.op = .call ⟨.value f, args, tys⟩) {K : Kt} (hy : Yes (callV h X m (ev f e) (evl e args.toList) K))
    {rdp : Option Nat} {next : Act → World → Prop} {Q : Exit → Act → World → Prop} (hx : Nx c Γ a o.dst K next) : o.uponIn (Fw rdp) 0 P a next Q ((execOp ρ o).run P w) := by
  have hvs := evl_ok hρ args.toList
  have hfv := hρ f
  have e0 : args.toList.map ρ = (args.map ρ).toList := by simp
  rw [e0] at hvs
  have hex : (execOp ρ o).run P w = (do let d ← resolve ρ ⟨.value f, args, tys⟩ o.type; invoke d.target d.args : Sem Next).run P w := by
    simp only [execOp, ho]
  cases hv : ev f e <;> rw [hv] at hy hfv <;> first | (exact (yes_none hy).elim) | skip
  · rename_i g k cs
    obtain ⟨ys, zs, h1, h2, e1⟩ := dv_func hfv
    have hy' : Yes (callF h X m g (lapp k (lapp (evl e args.toList) cs)) K) := hy
    rw [lapp_eq, lapp_eq] at hy'
    have hc := callF_ok hF hh hX hR (h1.append (hvs.append h2)) hy'
    refine enter_wp hF hc hx ?_
    rw [hex]
    simp only [resolve, e1, Deferred.ofValue, Sem.run_bind, Sem.run_pure, Result.andThen_ok, invoke]
    congr 2
    simp
  · rename_i l
    obtain ⟨g, hg, e1⟩ := dv_yld hfv
    have hy' : Yes (roundF X m l (evl e args.toList) K) := hy
    obtain ⟨fn, tmps, asg, body, hrun, hround⟩ := round_ok hX hR hg hvs hy' rdp
    have h2 : (execOp ρ o).run P w = .ok (.round g.blk fn tmps asg body) w := by
      rw [hex]
      simp only [resolve, e1, Deferred.ofValue, Sem.run_bind, Sem.run_pure, Result.andThen_ok, invoke]
      rw [← hrun]
      congr 2
      simp only [Array.empty_append, Array.toArray_toList]
    rw [h2, Oper.uponIn_round]
    refine ⟨fun h => (by cases h), hround.mono fun x w' hE => ?_⟩
    obtain ⟨v, y, m', Γ', rfl, hl, hR', hy, hK⟩ := hE
    exact hx v m' Γ' y w' hl hR' hy hK
theorem out_wp {ρ : Operand → Value} {o : Oper} {K : Kt} (h : Out c Γ o ρ w K) {rdp : Option Nat} {next : Act → World → Prop} {Q : Exit → Act → World → Prop} (hx : Nx c Γ a o.dst K next) : o.uponIn (Fw rdp) 0 P a next Q ((execOp ρ o).run P w) := by
  obtain ⟨v, m', Γ', x, w', hl, hR', hv, hK, hr | ⟨hr, rfl⟩⟩ := h
  · rw [hr, Oper.uponIn_value]
    exact hx v m' Γ' x w' hl hR' hv hK
  · rw [hr, Oper.uponIn_skip]
    exact hx v m' Γ' _ w' hl hR' hv hK
theorem cOp2_eq {op : Op} (h : ∀ f args tys, op ≠ .call ⟨.value f, args, tys⟩) (hk : Hk) (X : Ex) (e : En) (m : M) (K : Kt) : (cOp2 op).f hk X e m K = (cOp op).f e m K := by
  have e1 : cOp2 op = Bx.rec (motive := fun _ => Bx Op2) (fun f => ⟨fun _ _ e m K => f e m K⟩) (cOp op) := by
    cases op
    case call cl =>
      obtain ⟨cal, args, tys⟩ := cl
      cases cal
      case value f => exact absurd rfl (h f args tys)
      all_goals rfl
    all_goals rfl
  rw [e1]
theorem op_upon (hF : Facts) {h : Hk} (hh : HkOK h) {n : Nat} {X : Ex} (hX : Snd n X) (hR : Rel c Γ m w) {ρ : Operand → Value} (hρ : ∀ x, DV c.ν Γ (ev x e) (ρ x)) {o : Oper} {K : Kt} (hy : Yes ((cOp2 o.op).f h X e m K))
    {rdp : Option Nat} {next : Act → World → Prop} {Q : Exit → Act → World → Prop} (hx : Nx c Γ a o.dst K next) : o.uponIn (Fw rdp) 0 P a next Q ((o.semAt rdp ρ).run P w) := by
  by_cases hc : ∃ f args tys, o.op = .call ⟨.value f, args, tys⟩
  · obtain ⟨f, args, tys, ho⟩ := hc
    rw [Oper.semAt_eq _ _ _ (by rw [ho]; intro c h; cases h)]
    have hy' : Yes (callV h X m (ev f e) (evl e args.toList) K) := by
      rw [ho] at hy
      exact hy
    exact callV_wp hF hh hX hR hρ ho hy' hx
  · have hne : ∀ f args tys, o.op ≠ .call ⟨.value f, args, tys⟩ := fun f args tys he => hc ⟨f, args, tys, he⟩
    rw [cOp2_eq hne] at hy
    rw [Oper.semAt_eq _ _ _ (by
      intro d hd
      rw [hd] at hy
      exact yes_none hy)]
    exact out_wp (opOK hF.eqTs o.op e m K Γ w ρ o.dst o.type o.pos o.after o.guard hR hρ hy) hx
theorem op_wp (hF : Facts) {h : Hk} (hh : HkOK h) {n : Nat} {X : Ex} (hX : Snd n X) (hR : Rel c Γ m w) (ha : HasE c.ν Γ sz e ds a) {o : Oper} {K : Kt} (hy : Yes ((cOp2 o.op).f h X e m K))
    {rdp : Option Nat} {next : Act → World → Prop} {Q : Exit → Act → World → Prop} (hx : Nx c Γ a o.dst K next) : o.wpIn (Fw rdp) 0 P a w next Q :=
  ⟨fun _ _ => trivial, op_upon hF hh hX hR (ev_ok hR ha) hy hx⟩
/-! ### in a region -/
/-- What follows an operation in a region. -/
def NxE (c : Ctx) (Γ : Gm) (sz : Nat) (ds : List Nat) (K : En → M → A) (next : Act → World → Prop) : Prop := ∀ e' m' Γ' a' w', LeG Γ Γ' → Rel c Γ' m' w' → HasE c.ν Γ' sz e' ds a' → Yes (K e' m') → next a' w'
theorem NxE.mono {K : En → M → A} {next : Act → World → Prop} (h : NxE c Γ sz ds K next) (hl : LeG Γ Γ') : NxE c Γ' sz ds K next := fun e m G a w h2 => h e m G a w (hl.trans h2)
theorem put_ok (ha : HasE c.ν Γ sz e ds a) {dst : Option Tmp} {v : V} {x : Value} (hv : DV c.ν Γ v x) {K : En → A} (hy : Yes ((cPut dst).f sz v e K)) : ∃ e', Yes (K e') ∧ HasE c.ν Γ sz e' ds (a.put dst x) := by
  cases dst with
  | none => exact ⟨e, hy, ha⟩
  | some d =>
    obtain ⟨h1, h2⟩ := yes_bi hy
    exact ⟨_, h2, ha.put (by rwa [Nat.blt_eq] at h1) hv⟩
/-- An operation of a region; 'L': all that are in it. -/
def OpfOK (S : (Act → World → Prop) → (Exit → Act → World → Prop) → Act → World → Prop) (h : Hk) (X : Ex) (f : Opf) : Prop := ∀ (c : Ctx) (sz : Nat) (e : En) (ds : List Nat) (m : M) (K : En → M → A) (Γ : Gm) (a : Act) (w : World) (next : Act → World → Prop) (Q : Exit → Act → World → Prop),
  Rel c Γ m w → HasE c.ν Γ sz e ds a → NxE c Γ sz ds K next → Yes (f h X sz e m K) → S next Q a w
/-- One operation of a region, as it comes up. -/
def Step1 (rdp : Option Nat) (ops : Array Oper) (o : Oper) (next : Act → World → Prop) (Q : Exit → Act → World → Prop) (a : Act) (w : World) : Prop :=
  if Region.wanted o (yielded ops a.tmps) = true then o.wpIn (Fw rdp) 0 P a w next Q else (∀ f, o.about P w a.eval = some f → (Fw rdp).fn f) ∧ next (a.put o.dst undef) w
theorem cOper_none {ops : List Oper} {o : Oper} (hg : o.guard = none) {h : Hk} {X : Ex} {K : En → M → A} : (cOper ops o).f h X sz e m K = (cOp2 o.op).f h X e m (fun v m => (cPut o.dst).f sz v e (fun e => K e m)) := by
  have e1 : cOper ops o = Bx.rec (motive := fun _ => Bx Opf) (fun f => Bx.rec (motive := fun _ => Bx Opf) (fun p => ⟨fun h X sz e m K => f h X e m (fun v m => p sz v e (fun e => K e m))⟩) (cPut o.dst)) (cOp2 o.op) := by
    unfold cOper
    rw [hg]
  rw [e1]
theorem cOper_bad {ops : List Oper} {o : Oper} {g : Nat × Bool} (hg : o.guard = some g) (ht : guardT ops g = none) {h : Hk} {X : Ex} {K : En → M → A} : (cOper ops o).f h X sz e m K = none := by
  have e1 : cOper ops o = ⟨fun _ _ _ _ _ _ => none⟩ := by
    unfold cOper
    rw [hg]
    show Option.rec (motive := fun _ => Bx Opf) _ _ (guardT ops g) = _
    rw [ht]
  rw [e1]
theorem cOper_some {ops : List Oper} {o : Oper} {g : Nat × Bool} {t : Tmp} (hg : o.guard = some g) (ht : guardT ops g = some t) {h : Hk} {X : Ex} {K : En → M → A} : (cOper ops o).f h X sz e m K =
    (gE t e).onBool (fun x => bi (eqBo x g.2) ((cOp2 o.op).f h X e m (fun v m => (cPut o.dst).f sz v e (fun e => K e m))) ((cPut o.dst).f sz (.tup []) e (fun e => K e m))) ((gE t e).onTup (fun _ => (cPut o.dst).f sz (.tup []) e (fun e => K e m)) none) := by
  have e1 : cOper ops o = Bx.rec (motive := fun _ => Bx Opf) (fun f => Bx.rec (motive := fun _ => Bx Opf) (fun p => ⟨fun h X sz e m K =>
    (gE t e).onBool (fun x => bi (eqBo x g.2) (f h X e m (fun v m => p sz v e (fun e => K e m))) (p sz (.tup []) e (fun e => K e m))) ((gE t e).onTup (fun _ => p sz (.tup []) e (fun e => K e m)) none)⟩) (cPut o.dst)) (cOp2 o.op) := by
    unfold cOper
    rw [hg]
    show Option.rec (motive := fun _ => Bx Opf) _ _ (guardT ops g) = _
    rw [ht]
  rw [e1]
theorem yielded_eq {ops : Array Oper} {g : Nat × Bool} {t : Tmp} (ht : guardT ops.toList g = some t) (tmps : Array Value) : yielded ops tmps g.1 = (match tmps[t]? with
    | some (.bool b) => some b
    | _ => none) := by
  unfold guardT at ht
  rw [ob_eq] at ht
  obtain ⟨o, h1, h2⟩ := ht
  rw [Array.getElem?_toList] at h1
  unfold yielded
  rw [h1]
  simp only [Option.bind_some, h2]
  cases tmps[t]? with
  | none => rfl
  | some v => cases v <;> rfl
theorem yielded_bool {ops : Array Oper} {g : Nat × Bool} {t : Tmp} (ht : guardT ops.toList g = some t) {tmps : Array Value} {b : Bool} (h : tmps.getD t undef = .bool b) : yielded ops tmps g.1 = some b := by
  rw [yielded_eq ht]
  rw [Array.getD_eq_getD_getElem?] at h
  cases hx : tmps[t]? with
  | none => rw [hx] at h; cases h
  | some v =>
    rw [hx] at h
    have : v = .bool b := h
    rw [this]
theorem yielded_tup {ops : Array Oper} {g : Nat × Bool} {t : Tmp} (ht : guardT ops.toList g = some t) {tmps : Array Value} {l : Array Value} (h : tmps.getD t undef = .tuple l) : yielded ops tmps g.1 = none := by
  rw [yielded_eq ht]
  rw [Array.getD_eq_getD_getElem?] at h
  cases hx : tmps[t]? with
  | none => rfl
  | some v =>
    rw [hx] at h
    have : v = .tuple l := h
    rw [this]
theorem oper_ok (hF : Facts) {h : Hk} (hh : HkOK h) {n : Nat} {X : Ex} (hX : Snd n X) (rdp : Option Nat) (ops : Array Oper) (o : Oper) : OpfOK (Step1 rdp ops o) h X (cOper ops.toList o).f := by
  intro c sz e ds m K Γ a w next Q hR ha hx hy
  have run : Yes ((cOp2 o.op).f h X e m (fun v m => (cPut o.dst).f sz v e (fun e => K e m))) → o.wpIn (Fw rdp) 0 P a w next Q := fun hy => by
    refine op_wp hF hh hX hR ha hy ?_
    intro v m' Γ' x w' hl hR' hv hK
    obtain ⟨e', h1, h2⟩ := put_ok (ha.mono hl) hv hK
    exact hx e' m' Γ' _ w' hl hR' h2 h1
  have skip : Yes ((cPut o.dst).f sz (.tup []) e (fun e => K e m)) → next (a.put o.dst undef) w := fun hy => by
    obtain ⟨e', h1, h2⟩ := put_ok ha (DV.undef) hy
    exact hx e' m Γ _ w (LeG.refl _) hR h2 h1
  unfold Step1
  cases hg : o.guard with
  | none =>
    rw [cOper_none hg] at hy
    rw [if_pos (by unfold Region.wanted; rw [hg])]
    exact run hy
  | some g =>
    cases ht : guardT ops.toList g with
    | none =>
      rw [cOper_bad hg ht] at hy
      exact (yes_none hy).elim
    | some t =>
      rw [cOper_some hg ht] at hy
      have hd := ha.at_ t
      cases hv : gE t e <;> rw [hv] at hy hd <;> first | (exact (yes_none hy).elim) | skip
      · rename_i b
        have hb := yielded_bool ht (dv_bool hd)
        have hw : Region.wanted o (yielded ops a.tmps) = (b == g.2) := by
          unfold Region.wanted
          rw [hg]
          show (yielded ops a.tmps g.1 == some g.2) = _
          rw [hb]
          rfl
        rw [hw]
        have hy' : Yes (bi (eqBo b g.2) ((cOp2 o.op).f h X e m (fun v m => (cPut o.dst).f sz v e (fun e => K e m))) ((cPut o.dst).f sz (.tup []) e (fun e => K e m))) := hy
        rw [eqBo_eq] at hy'
        rcases yes_bi2 hy' with ⟨h1, h2⟩ | ⟨h1, h2⟩
        · rw [if_pos h1]
          exact run h2
        · rw [if_neg (by rw [h1]; simp)]
          exact ⟨fun _ _ => trivial, skip h2⟩
      · obtain ⟨l, _, h1⟩ := dv_tup hd
        have hb := yielded_tup ht h1
        have hw : Region.wanted o (yielded ops a.tmps) = false := by
          unfold Region.wanted
          rw [hg]
          show (yielded ops a.tmps g.1 == some g.2) = _
          rw [hb]
          rfl
        rw [hw, if_neg (by simp)]
        exact ⟨fun _ _ => trivial, skip hy⟩
theorem ops_ok (hF : Facts) {h : Hk} (hh : HkOK h) {n : Nat} {X : Ex} (hX : Snd n X) (rdp : Option Nat) (ops : Array Oper) : ∀ l : List Oper, OpfOK (fun next Q a w => ∀ Q' : Exit → Act → World → Prop, (∀ a w, next a w → Q' .normal a w) → wpListIn (Fw rdp) 0 P ops Q' l a w) h X (cOps ops.toList l).f
  | [] => by
    intro c sz e ds m K Γ a w next Q hR ha hx hy Q' hQ
    exact hQ _ _ (hx e m Γ a w (LeG.refl _) hR ha hy)
  | o :: l => by
    intro c sz e ds m K Γ a w next Q hR ha hx hy Q' hQ
    have e1 : (cOps ops.toList (o :: l)).f h X sz e m K = (cOper ops.toList o).f h X sz e m (fun e m => (cOps ops.toList l).f h X sz e m K) := by
      have e2 : cOps ops.toList (o :: l) = Bx.rec (motive := fun _ => Bx Opf) (fun f => ⟨fun h X sz e m K => f h X sz e m (fun e m => Bx.rec (fun g => g h X sz e m K) (cOps ops.toList l))⟩) (cOper ops.toList o) := rfl
      rw [e2]
    rw [e1] at hy
    have := oper_ok hF hh hX rdp ops o c sz e ds m _ Γ a w (wpListIn (Fw rdp) 0 P ops Q' l) Q' hR ha ?_ hy
    · unfold wpListIn
      exact this
    · intro e' m' Γ' a' w' hl hR' ha' hy'
      exact ops_ok hF hh hX rdp ops l c sz e' ds m' K Γ' a' w' next Q hR' ha' (hx.mono hl) hy' Q' hQ
end Go.Proofs.YtiekoeapmhhjbaaGreatDoor.X
/- The interpreter is sound, part X: ranges over functions; code; with fuel. -/
namespace Go.Proofs.YtiekoeapmhhjbaaGreatDoor.X
open Go Go.RowKit
set_option linter.unusedVariables false
set_option linter.unusedSimpArgs false
variable {c : Ctx} {Γ Γ' : Gm} {m m' : M} {w w' : World} {e : En} {a : Act} {ds : List Nat} {sz : Nat}
theorem hasB_some {f : Nat} {fn : Func} (h : hasB f = true) (hf : P.funcs[f]? = some fn) : fn.body.isNone = false := by
  have h0 : funOf f = some fn := by
    unfold funOf
    rwa [Array.getElem?_toList]
  unfold hasB at h
  rw [h0] at h
  have h' : Option.rec (motive := fun _ => Bool) false (fun _ => true) fn.body = true := h
  cases hb : fn.body with
  | none => rw [hb] at h'; cases h'
  | some q => rfl
/-- What a range over a function goes on with. -/
noncomputable def afterR (D l : Nat) (e : En) (ds : List Nat) (Kn : Kn) (Kx : Kx) : Kt := fun _ m => onLoop (m.get l) (fun st p _ _ _ _ _ => bi (Nat.beq st 1) none
    (Option.rec (Kn e (D :: ds) (m.kill l)) (fun c => match c with
      | .ret => Kx .ret e (D :: ds) (m.kill l)
      | .exit id => Kx (.exit id) e (D :: ds) (m.kill l)
      | _ => none) p)) none
theorem rangeF_eq {h : Hk} {X : Ex} {f : Operand} {ps : List Tmp} {asg body : Code} {Kn : Kn} {Kx : Kx} : rangeF h X f ps asg body sz none e ds m Kn Kx =
    (ev f e).onFunc (fun g k cs => bi (hasB g) (callF h X ((m.add .deferred).add (.loop 0 none e sz ps asg body)) g (lapp k (lapp [.yld (m.add .deferred).n] cs)) (afterR m.n (m.add .deferred).n e ds Kn Kx)) none) none := by
  have e1 : rangeF h X f ps asg body sz none e ds m Kn Kx = allo m .deferred fun D m => allo m (.loop 0 none e sz ps asg body) fun l m => (ev f e).onFunc (fun g k cs => bi (hasB g) (callF h X m g (lapp k (lapp [.yld l] cs)) (afterR D l e ds Kn Kx)) none) none := rfl
  rw [e1, allo_eq, allo_eq]
theorem resolve_range {Q : Program} {a : Act} {f : Operand} {l g : Nat} {ys zs : Array Value} (e1 : a.eval f = .func (.func g) ys zs) (w : World) : (resolve a.eval (rangeCall f l) 0).run Q w = .ok { target := .fn (.func g) zs, args := ys ++ #[Value.func (.yield l) #[] #[]] } w := by
  have e2 : a.eval (.const (.func (.yield l) #[] #[])) = .func (.yield l) #[] #[] := rfl
  simp only [resolve, e1, Deferred.ofValue]
  simp [e2]
theorem invoke_range {Q : Program} (g l : Nat) (ys zs : List Value) (w : World) : (invoke (.fn (.func g) zs.toArray) (ys.toArray ++ #[Value.func (.yield l) #[] #[]])).run Q w = (callFunc g (ys ++ ([Value.func (.yield l) #[] #[]] ++ zs)).toArray).run Q w := by
  have e1 : ys.toArray ++ #[Value.func (.yield l) #[] #[]] ++ zs.toArray = (ys ++ ([Value.func (.yield l) #[] #[]] ++ zs)).toArray := by simp
  rw [← e1]
  rfl
theorem rangeX_ok (hF : Facts) {h : Hk} (hh : HkOK h) {n : Nat} {X : Ex} (hX : Snd n X) (f : Operand) (ps : Array Tmp) (asg body : Code) :
    SndC (fun sz rd e ds m Kn Kx => rangeF h X f ps.toList asg body sz rd e ds m Kn Kx) (fun rdp Q a w => (Code.rangeFunc f ps asg body).wpIn (Fw rdp) 0 P Q a w) := by
  intro c sz rd rdp e ds m Kn Kx Γ a w Q hrd hR ha hn hx hy
  cases rd with
  | some l => exact (yes_none hy).elim
  | none =>
  have hrdp : rdp = none := by
    cases rdp with
    | none => rfl
    | some l => cases hrd
  subst hrdp
  have hy : Yes (rangeF h X f ps.toList asg body sz none e ds m Kn Kx) := hy
  rw [rangeF_eq] at hy
  have hfv := ev_ok hR ha f
  cases hv : ev f e <;> rw [hv] at hy hfv <;> first | (exact (yes_none hy).elim) | skip
  rename_i g k cs
  obtain ⟨ys, zs, hy1, hz1, e1⟩ := dv_func hfv
  have hy : Yes (bi (hasB g) (callF h X ((m.add .deferred).add (.loop 0 none e sz ps.toList asg body)) g (lapp k (lapp [.yld (m.add .deferred).n] cs)) (afterR m.n (m.add .deferred).n e ds Kn Kx)) none) := hy
  obtain ⟨hB, hy⟩ := yes_bi hy
  rw [lapp_eq, lapp_eq] at hy
  refine wpIn_rangeFunc (fun fn _ => ?_)
  obtain ⟨r, hr⟩ : ∃ r : Loop, r = { state := .ready, pending := none, fn, tmps := a.tmps, params := ps, assign := asg, body, defers := w.heap.size } := ⟨_, rfl⟩
  have hR1 : Rel c (addG Γ m.n ⟨w.heap.size, 0, 0⟩) (m.add .deferred) (w.alloc (.deferred (some []))) := hR.alloc (o := .deferred (some [])) (N := 0) rfl rfl rfl rfl (World.alloc_heap_new w _)
  have hl1 : LeG Γ (addG Γ m.n ⟨w.heap.size, 0, 0⟩) := LeG.add hR.fresh _
  have hs1 : (w.alloc (.deferred (some []))).heap.size = w.heap.size + 1 := by simp [World.size_alloc]
  obtain ⟨Γ1, hΓ1⟩ : ∃ Γ1, addG Γ m.n ⟨w.heap.size, 0, 0⟩ = Γ1 := ⟨_, rfl⟩
  have hD1 : Γ1 m.n = some ⟨w.heap.size, 0, 0⟩ := by rw [← hΓ1]; exact addG_same _ _ _
  rw [hΓ1] at hR1 hl1
  obtain ⟨m1, hm1⟩ : ∃ m1, m.add .deferred = m1 := ⟨_, rfl⟩
  obtain ⟨W1, hW1⟩ : ∃ W1, w.alloc (.deferred (some [])) = W1 := ⟨_, rfl⟩
  rw [hm1, hW1] at hR1
  rw [hm1] at hy
  rw [hW1] at hs1
  have hl2 : LeG Γ1 (addG Γ1 m1.n ⟨W1.heap.size, 0, 0⟩) := LeG.add hR1.fresh _
  have hR2 : Rel c (addG Γ1 m1.n ⟨W1.heap.size, 0, 0⟩) (m1.add (.loop 0 none e sz ps.toList asg body)) (W1.alloc (.loop r)) := by
    refine hR1.alloc (o := .loop r) (N := 0) rfl rfl rfl rfl ⟨r, World.alloc_heap_new W1 _, ?_⟩
    subst hr
    exact ⟨rfl, rfl, ha.size, fun i => (ha.at_ i).mono (hl1.trans hl2), rfl, rfl, rfl⟩
  obtain ⟨Γ2, hΓ2⟩ : ∃ Γ2, addG Γ1 m1.n ⟨W1.heap.size, 0, 0⟩ = Γ2 := ⟨_, rfl⟩
  have hG2 : Γ2 m1.n = some ⟨W1.heap.size, 0, 0⟩ := by rw [← hΓ2]; exact addG_same _ _ _
  rw [hΓ2] at hR2 hl2
  have hl := hl1.trans hl2
  have hargs : DVL c.ν Γ2 (k ++ ([.yld m1.n] ++ cs)) (ys ++ ([.func (.yield (w.heap.size + 1)) #[] #[]] ++ zs)) := by
    refine (hy1.mono hl).append (DVL.append (DVL.cons ?_ DVL.nil) (hz1.mono hl))
    rw [DV]
    exact ⟨_, hG2, by rw [hs1]⟩
  obtain ⟨fn', hf', hcall⟩ := callF_ok hF hh hX hR2 hargs hy
  have hb' := hasB_some hB hf'
  have hC := hcall.resolve_right (fun hb2 => by rw [hb'] at hb2; exact absurd hb2.1 (by simp))
  replace hC := hC.2
  refine ⟨w.heap.size + 1, [Sx.markD w.heap.size], W1.alloc (.loop r), { target := .fn (.func g) zs.toArray, args := ys.toArray ++ #[Value.func (.yield (w.heap.size + 1)) #[] #[]] }, W1.alloc (.loop r), g, (ys ++ ([Value.func (.yield (w.heap.size + 1)) #[] #[]] ++ zs)).toArray, W1.alloc (.loop r), ?_, ?_, fun _ _ => trivial, ?_, fun h => (by cases h), ?_⟩
  · rw [← hW1, hr]
    exact run_enterLoop_outer _ _ _ _ _
  · exact resolve_range e1 _
  · rw [← callFunc_enter hF hf' hb' (ys ++ ([Value.func (.yield (w.heap.size + 1)) #[] #[]] ++ zs)).toArray (W1.alloc (.loop r))]
    exact invoke_range g (w.heap.size + 1) ys zs _
  · refine (Sx.callsW none _ hC).mono fun x w3 hE => ?_
    obtain ⟨v, y, m3, Γ3, rfl, hl3, hR3, hyv, hK⟩ := hE
    obtain ⟨st, p, t, sz3, ps3, asg3, body3, hb3, hK⟩ := yes_onLoop hK
    obtain ⟨hst, hK⟩ := yes_bi' hK
    obtain ⟨g3, r3, hg3, hr3, k1, k2, k3⟩ := loop_at hR3 hb3
    rw [hl3 _ _ hG2] at hg3
    cases hg3
    have hne : r3.state ≠ .busy := by
      intro hb
      rw [hb] at k1
      have : st = 1 := k1.symm
      rw [this] at hst
      cases hst
    have hr3' : w3.heap[w.heap.size + 1]? = some (.loop r3) := by rw [← hs1]; exact hr3
    have hrun := run_endLoop (P := P) hr3' hne
    have hR4 : Rel c Γ3 (m3.kill m1.n) (w3.putObj (w.heap.size + 1) (.loop { r3 with state := .exhausted })) := by
      rw [← hs1]
      refine hR3.put (b := .dead) (hl3 _ _ hG2) (by rw [hb3]; exact ⟨by simp, by simp⟩) rfl rfl rfl (by simp) (fun j hj => World.putObj_heap_other hj) trivial
    have ha4 : HasE c.ν Γ3 sz e (m.n :: ds) { a with defers := [Sx.markD w.heap.size] ++ a.defers } := by
      obtain ⟨L, hL, hM⟩ := ha.defers
      refine ⟨ha.size, fun i => (ha.at_ i).mono (hl.trans hl3), w.heap.size :: L, by simp [hL], ?_⟩
      exact ⟨_, _, rfl, ⟨_, hl3 _ _ (hl2 _ _ hD1), rfl⟩, hM.mono (hl.trans hl3)⟩
    refine ⟨r3.pending, _, hrun, ?_⟩
    have hl4 := hl.trans hl3
    rw [k2] at hR4 ⊢
    cases p with
    | none => exact hn Γ3 e (m.n :: ds) _ _ _ hl4 hR4 ha4 hK
    | some q =>
      cases q with
      | ret => exact wpIn_ret (hx .ret Γ3 e (m.n :: ds) _ _ _ rne hl4 hR4 ha4 hK)
      | exit id => exact wpIn_exit (hx (.exit id) Γ3 e (m.n :: ds) _ _ _ xne hl4 hR4 ha4 hK)
      | _ => exact (yes_none hK).elim
/-! ### code -/
/-- Regions that draw their order. -/
def DrawOK : Prop := ∀ (h : Hk) (n : Nat) (X : Ex), HkOK h → Snd n X → ∀ (id : Nat) (ops : Array Oper),
  SndC (fun sz rd e ds m Kn Kx => (cDraw ops.toList).f h X sz e m (fun e m => Kn e ds m)) (fun rdp Q a w => (Code.region id ops true).wpIn (Fw rdp) 0 P Q a w)
theorem run_seq {x y : Code} {h : Hk} {X : Ex} {rd : Option Nat} {Kn : Kn} {Kx : Kx} : run (cCode (.seq x y)) h X sz rd e ds m Kn Kx = run (cCode x) h X sz rd e ds m (fun e ds m => run (cCode y) h X sz rd e ds m Kn Kx) Kx := by
  have e1 : cCode (.seq x y) = Bx.rec (motive := fun _ => Bx Cb) (fun f => ⟨fun h X sz rd e ds m Kn Kx => f h X sz rd e ds m (fun e ds m => run (cCode y) h X sz rd e ds m Kn Kx) Kx⟩) (cCode x) := rfl
  rw [e1]
  generalize cCode x = b
  rfl
theorem run_block {id : Nat} {x : Code} {h : Hk} {X : Ex} {rd : Option Nat} {Kn : Kn} {Kx : Kx} : run (cCode (.block id x)) h X sz rd e ds m Kn Kx = run (cCode x) h X sz rd e ds m Kn (fun r e ds m => Rs.rec (motive := fun _ => A) none (fun i => bi (Nat.beq i id) (Kn e ds m) (Kx (.exit i) e ds m)) (Kx .ret e ds m) r) := by
  have e1 : cCode (.block id x) = Bx.rec (motive := fun _ => Bx Cb) (fun f => ⟨fun h X sz rd e ds m Kn Kx => f h X sz rd e ds m Kn (fun r e ds m => Rs.rec (motive := fun _ => A) none (fun i => bi (Nat.beq i id) (Kn e ds m) (Kx (.exit i) e ds m)) (Kx .ret e ds m) r)⟩) (cCode x) := rfl
  rw [e1]
  generalize cCode x = b
  rfl
theorem run_region {id : Nat} {ops : Array Oper} {dr : Bool} {h : Hk} {X : Ex} {rd : Option Nat} {Kn : Kn} {Kx : Kx} : run (cCode (.region id ops dr)) h X sz rd e ds m Kn Kx = (bi dr (cDraw ops.toList) (cOps ops.toList ops.toList)).f h X sz e m (fun e m => Kn e ds m) := by
  have e1 : cCode (.region id ops dr) = Bx.rec (motive := fun _ => Bx Cb) (fun f => ⟨fun h X sz _ e ds m Kn _ => f h X sz e m (fun e m => Kn e ds m)⟩) (bi dr (cDraw ops.toList) (cOps ops.toList ops.toList)) := rfl
  rw [e1]
  generalize bi dr (cDraw ops.toList) (cOps ops.toList ops.toList) = b
  rfl
theorem rounds_ok {n : Nat} {X : Ex} (hX : Snd n X) (x : Code) : SndC (fun sz rd e ds m Kn Kx => X x sz rd e ds m (fun e ds m => X (.loop x) sz rd e ds m Kn Kx) Kx) (fun rdp Q a w => Code.roundsIn (Fw rdp) 0 P x Q (n + 1) a w) := by
  intro c sz rd rdp e ds m Kn Kx Γ a w Q hrd hR ha hn hx hy
  rw [roundsIn_succ]
  refine hX.1 x c sz rd rdp e ds m _ Kx Γ a w _ hrd hR ha ?_ ?_ hy
  · intro Γ' e' ds' m' a' w' hl hR' ha' hy'
    exact hX.2 x c sz rd rdp e' ds' m' Kn Kx Γ' a' w' Q hrd hR' ha' (hn.mono hl) (hx.mono hl) hy'
  · intro r Γ' e' ds' m' a' w' hne hl hR' ha' hy'
    cases r with
    | normal => exact absurd rfl hne
    | exit id => exact hx (.exit id) Γ' e' ds' m' a' w' xne hl hR' ha' hy'
    | ret => exact hx .ret Γ' e' ds' m' a' w' rne hl hR' ha' hy'
theorem code_ok (hF : Facts) (hD : DrawOK) {h : Hk} (hh : HkOK h) {n : Nat} {X : Ex} (hX : Snd n X) : ∀ q : Code, SndC (fun sz rd e ds m Kn Kx => run (cCode q) h X sz rd e ds m Kn Kx) (fun rdp Q a w => q.wpIn (Fw rdp) 0 P Q a w) := by
  intro q
  induction q with
  | skip =>
    intro c sz rd rdp e ds m Kn Kx Γ a w Q hrd hR ha hn hx hy
    exact wpIn_skip (hn Γ e ds m a w (LeG.refl _) hR ha hy)
  | region id ops dr =>
    cases dr with
    | true =>
      intro c sz rd rdp e ds m Kn Kx Γ a w Q hrd hR ha hn hx hy
      have hy : Yes (run (cCode (.region id ops true)) h X sz rd e ds m Kn Kx) := hy
      rw [run_region] at hy
      exact hD h n X hh hX id ops c sz rd rdp e ds m Kn Kx Γ a w Q hrd hR ha hn hx hy
    | false =>
      intro c sz rd rdp e ds m Kn Kx Γ a w Q hrd hR ha hn hx hy
      have hy : Yes (run (cCode (.region id ops false)) h X sz rd e ds m Kn Kx) := hy
      rw [run_region] at hy
      refine wpIn_region_list ?_
      exact ops_ok hF hh hX rdp ops ops.toList c sz e ds m _ Γ a w (Q .normal) Q hR ha (fun e' m' Γ' a' w' hl hR' ha' hy' => hn Γ' e' ds m' a' w' hl hR' ha' hy') hy Q (fun _ _ h => h)
  | seq x y ihx ihy =>
    intro c sz rd rdp e ds m Kn Kx Γ a w Q hrd hR ha hn hx hy
    have hy : Yes (run (cCode (.seq x y)) h X sz rd e ds m Kn Kx) := hy
    rw [run_seq] at hy
    refine wpIn_seq (ihx c sz rd rdp e ds m _ Kx Γ a w _ hrd hR ha ?_ ?_ hy)
    · intro Γ' e' ds' m' a' w' hl hR' ha' hy'
      exact ihy c sz rd rdp e' ds' m' Kn Kx Γ' a' w' Q hrd hR' ha' (hn.mono hl) (hx.mono hl) hy'
    · intro r Γ' e' ds' m' a' w' hne hl hR' ha' hy'
      cases r with
      | normal => exact absurd rfl hne
      | exit id => exact hx (.exit id) Γ' e' ds' m' a' w' xne hl hR' ha' hy'
      | ret => exact hx .ret Γ' e' ds' m' a' w' rne hl hR' ha' hy'
  | cond x y z ihy ihz =>
    intro c sz rd rdp e ds m Kn Kx Γ a w Q hrd hR ha hn hx hy
    have hy : Yes ((ev x e).onBool (fun t => run (bi t (cCode y) (cCode z)) h X sz rd e ds m Kn Kx) none) := hy
    obtain ⟨b, hb, hy⟩ := yes_onBool hy
    have hv := ev_ok hR ha x
    rw [hb] at hv
    refine wpIn_cond (dv_bool hv) ?_
    cases b with
    | true => exact ihy c sz rd rdp e ds m Kn Kx Γ a w Q hrd hR ha hn hx hy
    | false => exact ihz c sz rd rdp e ds m Kn Kx Γ a w Q hrd hR ha hn hx hy
  | block id x ih =>
    intro c sz rd rdp e ds m Kn Kx Γ a w Q hrd hR ha hn hx hy
    have hy : Yes (run (cCode (.block id x)) h X sz rd e ds m Kn Kx) := hy
    rw [run_block] at hy
    refine wpIn_block (ih c sz rd rdp e ds m Kn _ Γ a w _ hrd hR ha ?_ ?_ hy)
    · intro Γ' e' ds' m' a' w' hl hR' ha' hy'
      exact hn Γ' e' ds' m' a' w' hl hR' ha' hy'
    · intro r Γ' e' ds' m' a' w' hne hl hR' ha' hy'
      cases r with
      | normal => exact (yes_none hy').elim
      | exit i =>
        show if i = id then Q .normal a' w' else Q (.exit i) a' w'
        rcases yes_bi2 hy' with ⟨h1, h2⟩ | ⟨h1, h2⟩
        · have : i = id := Nat.eq_of_beq_eq_true h1
          subst this
          rw [if_pos rfl]
          exact hn Γ' e' ds' m' a' w' hl hR' ha' h2
        · rw [if_neg (fun he => by subst he; rw [Nat.beq_refl] at h1; cases h1)]
          exact hx (.exit i) Γ' e' ds' m' a' w' xne hl hR' ha' h2
      | ret => exact hx .ret Γ' e' ds' m' a' w' rne hl hR' ha' hy'
  | loop x ih =>
    intro c sz rd rdp e ds m Kn Kx Γ a w Q hrd hR ha hn hx hy
    exact wpIn_loop_rounds (n + 1) (rounds_ok hX x c sz rd rdp e ds m Kn Kx Γ a w Q hrd hR ha hn hx hy)
  | rangeFunc f ps x y ihx ihy => exact rangeX_ok hF hh hX f ps x y
  | exit id =>
    intro c sz rd rdp e ds m Kn Kx Γ a w Q hrd hR ha hn hx hy
    exact wpIn_exit (hx (.exit id) Γ e ds m a w xne (LeG.refl _) hR ha hy)
  | scope x ih => intro c sz rd rdp e ds m Kn Kx Γ a w Q hrd hR ha hn hx hy; exact (yes_none hy).elim
  | label l =>
    intro c sz rd rdp e ds m Kn Kx Γ a w Q hrd hR ha hn hx hy
    exact wpIn_label (hn Γ e ds m a w (LeG.refl _) hR ha hy)
  | goto l => intro c sz rd rdp e ds m Kn Kx Γ a w Q hrd hR ha hn hx hy; exact (yes_none hy).elim
  | ret =>
    intro c sz rd rdp e ds m Kn Kx Γ a w Q hrd hR ha hn hx hy
    exact wpIn_ret (hx .ret Γ e ds m a w rne (LeG.refl _) hR ha hy)
  | refuse s => intro c sz rd rdp e ds m Kn Kx Γ a w Q hrd hR ha hn hx hy; exact (yes_none hy).elim
/-- The interpreter is sound. -/
theorem exec_ok (hF : Facts) (hD : DrawOK) {h : Hk} (hh : HkOK h) : ∀ n : Nat, Snd n (exec h n)
  | 0 => ⟨fun q c sz rd rdp e ds m Kn Kx Γ a w Q hrd hR ha hn hx hy => (yes_none hy).elim, fun q c sz rd rdp e ds m Kn Kx Γ a w Q hrd hR ha hn hx hy => (yes_none hy).elim⟩
  | n + 1 => by
    have ih := exec_ok hF hD hh n
    refine ⟨fun q => code_ok hF hD hh ih q, fun q => ?_⟩
    exact rounds_ok ih q
theorem call_ok (hF : Facts) (hD : DrawOK) {h : Hk} (hh : HkOK h) (n : Nat) {f : Nat} {vs : List V} {args : List Value} {K : Kt} (hR : Rel c Γ m w) (hv : DVL c.ν Γ vs args) (hy : Yes (call h n m f vs K)) : CallOK c Γ K f args w :=
  callF_ok hF hh (exec_ok hF hD hh n) hR hv hy
end Go.Proofs.YtiekoeapmhhjbaaGreatDoor.X
/- The interpreter is sound, part Y: what operations look at; those that make a block. -/
namespace Go.Proofs.YtiekoeapmhhjbaaGreatDoor.X
open Go Go.RowKit
set_option linter.unusedVariables false
set_option linter.unusedSimpArgs false
variable {c : Ctx} {Γ Γ' : Gm} {m m' : M} {w w' : World} {e e' : En} {a : Act} {ds : List Nat} {sz : Nat} {Q : Program}
/-! ### operations look at their operands only -/
theorem evl_congr {l : List Operand} (h : ∀ x ∈ l, ev x e = ev x e') : evl e l = evl e' l := by
  induction l with
  | nil => rfl
  | cons x r ih =>
    show ev x e :: evl e r = ev x e' :: evl e' r
    rw [h x (List.mem_cons_self ..), ih (fun y hy => h y (List.mem_cons_of_mem _ hy))]
theorem evp_congr {l : List (Nat × Operand)} (h : ∀ x ∈ l, ev x.2 e = ev x.2 e') : evp e l = evp e' l := by
  induction l with
  | nil => rfl
  | cons x r ih =>
    show (x.1, ev x.2 e) :: evp e r = (x.1, ev x.2 e') :: evp e' r
    rw [h x (List.mem_cons_self ..), ih (fun y hy => h y (List.mem_cons_of_mem _ hy))]
theorem optI_congr {o : Option Operand} {d : Nat} (h : ∀ x, o = some x → ev x e = ev x e') : optI e o d = optI e' o d := by
  cases o with
  | none => rfl
  | some x =>
    show natV (ev x e) = natV (ev x e')
    rw [h x rfl]
theorem xSlice_congr {t : TypeId} {x : V} {lo hi mx : Option Operand} (h1 : ∀ x, lo = some x → ev x e = ev x e') (h2 : ∀ x, hi = some x → ev x e = ev x e') (h3 : ∀ x, mx = some x → ev x e = ev x e') : xSlice Q e m t x lo hi mx = xSlice Q e' m t x lo hi mx := by
  have a1 : ∀ d, optI e lo d = optI e' lo d := fun d => optI_congr h1
  have a2 : ∀ d, optI e hi d = optI e' hi d := fun d => optI_congr h2
  have a3 : ∀ d, optI e mx d = optI e' mx d := fun d => optI_congr h3
  have b1 : symHi e hi = symHi e' hi := by
    cases hi with
    | none => rfl
    | some x =>
      show opN (ev x e) = opN (ev x e')
      rw [h2 x rfl]
  have b2 : ∀ f, symMx e mx f = symMx e' mx f := fun f => by
    cases mx with
    | none => rfl
    | some x =>
      show (Option.rec (motive := fun _ => Bool) false (fun g => Nat.beq f g) (opN (ev x e)) : Bool) = Option.rec (motive := fun _ => Bool) false (fun g => Nat.beq f g) (opN (ev x e'))
      rw [h3 x rfl]
  unfold xSlice
  rw [b1]
  cases symHi e' hi with
  | none =>
    show bi (okHM hi mx) (xSliceB Q e m t x lo hi mx) none = bi (okHM hi mx) (xSliceB Q e' m t x lo hi mx) none
    unfold xSliceB
    simp only [a1, a2, a3]
  | some f =>
    show bi (okHM hi mx) (xSliceY Q e t x lo mx f) none = bi (okHM hi mx) (xSliceY Q e' t x lo mx f) none
    unfold xSliceY
    simp only [b2]
theorem mem1 {x : Operand} {p : Operand → Prop} (h : ∀ y ∈ (#[x] : Array Operand), p y) : p x := h x (by simp)
theorem mem2 {x y : Operand} {p : Operand → Prop} (h : ∀ z ∈ (#[x, y] : Array Operand), p z) : p x ∧ p y := ⟨h x (by simp), h y (by simp)⟩
theorem mem3 {x y z : Operand} {p : Operand → Prop} (h : ∀ u ∈ (#[x, y, z] : Array Operand), p u) : p x ∧ p y ∧ p z := ⟨h x (by simp), h y (by simp), h z (by simp)⟩
theorem cOp2_congr {op : Op} (hx : ∀ x ∈ op.operands, ev x e = ev x e') (h : Hk) (X : Ex) (m : M) (K : Kt) : (cOp2 op).f h X e m K = (cOp2 op).f h X e' m K := by
  cases op
  case call cl =>
    obtain ⟨cal, args, tys⟩ := cl
    have ha : evl e args.toList = evl e' args.toList := evl_congr fun x hm => hx x (by
      show x ∈ Call.operands ⟨cal, args, tys⟩
      simp only [Call.operands]
      have := Array.mem_toList_iff.1 hm
      cases cal <;> simp [this])
    cases cal
    case value f =>
      have hf : ev f e = ev f e' := hx f (by
        show f ∈ Call.operands ⟨.value f, args, tys⟩
        simp [Call.operands])
      show callV h X m (ev f e) (evl e args.toList) K = callV h X m (ev f e') (evl e' args.toList) K
      rw [ha, hf]
    case builtin b =>
      show orm (xBuiltin P m b tys.toList (evl e args.toList)) K = orm (xBuiltin P m b tys.toList (evl e' args.toList)) K
      rw [ha]
    case invoke r nm => rfl
  all_goals rw [cOp2_eq (by intro f args tys hc; cases hc), cOp2_eq (by intro f args tys hc; cases hc)]
  case move x =>
    show K (ev x e) m = K (ev x e') m
    rw [mem1 hx]
  case assign x =>
    show K (ev x e) m = K (ev x e') m
    rw [mem1 hx]
  case pick x y z =>
    obtain ⟨h1, h2, h3⟩ := mem3 hx
    show (ev x e).onBool (fun t => K (bi t (ev y e) (ev z e)) m) none = (ev x e').onBool (fun t => K (bi t (ev y e') (ev z e')) m) none
    rw [h1, h2, h3]
  case alloc t => rfl
  case box t x =>
    have e1 : cOp (.box t x) = ⟨fun e m K => oc (cellsV (ev x e)) none (fun cs => alloC m cs t fun k m => K (.ptr k 0) m)⟩ := by kernel_rfl
    rw [e1]
    dsimp only
    rw [mem1 hx]
  case build t ps =>
    have hp : evp e ps.toList = evp e' ps.toList := evp_congr fun x hm => hx x.2 (by simp [Op.operands]; exact ⟨x.1, by simpa using hm⟩)
    have e1 : cOp (.build t ps) = ⟨fun e m K => ovm (xBuild P t (evp e ps.toList)) m K⟩ := by kernel_rfl
    rw [e1]
    dsimp only
    rw [hp]
  case buildSlice t n ps =>
    have hp : evp e ps.toList = evp e' ps.toList := evp_congr fun x hm => hx x.2 (by simp [Op.operands]; exact ⟨x.1, by simpa using hm⟩)
    have e1 : cOp (.buildSlice t n ps) = ⟨fun e m K => orm (xBuildSlice P m t n (evp e ps.toList)) K⟩ := by kernel_rfl
    rw [e1]
    dsimp only
    rw [hp]
  case insert t x k v =>
    obtain ⟨h1, h2, h3⟩ := mem3 hx
    have e1 : cOp (.insert t x k v) = ⟨fun e m K => oc (xMapUpdate P m t (ev x e) (ev k e) (ev v e)) none (fun m => K (.tup []) m)⟩ := by kernel_rfl
    rw [e1]
    dsimp only
    rw [h1, h2, h3]
  case mapUpdate t x k v =>
    obtain ⟨h1, h2, h3⟩ := mem3 hx
    have e1 : cOp (.mapUpdate t x k v) = ⟨fun e m K => oc (xMapUpdate P m t (ev x e) (ev k e) (ev v e)) none (fun m => K (.tup []) m)⟩ := by kernel_rfl
    rw [e1]
    dsimp only
    rw [h1, h2, h3]
  case load t x =>
    have e1 : cOp (.load t x) = Option.rec (motive := fun _ => Bx Op1) ⟨fun e m K => (ev x e).onPtr (fun b o => loadK P t m b o (fun v => K v m) none) none⟩ (fun g => ⟨fun _ m K => K (.opq (Nat.add 1000 g)) m⟩) (loadG P t x) := by kernel_rfl
    rw [e1]
    cases loadG P t x with
    | some g => rfl
    | none =>
      dsimp only
      rw [mem1 hx]
  case store t x y =>
    obtain ⟨h1, h2⟩ := mem2 hx
    have e1 : cOp (.store t x y) = ⟨fun e m K => (ev x e).onPtr (fun b o => storeK P t m b o (ev y e) (fun m => K (.tup []) m) none) none⟩ := by kernel_rfl
    rw [e1]
    dsimp only
    rw [h1, h2]
  case nilCheck x =>
    show (ev x e).onPtr (fun b o => K (.ptr b o) m) (ovm (xNil (ev x e)) m K) = (ev x e').onPtr (fun b o => K (.ptr b o) m) (ovm (xNil (ev x e')) m K)
    rw [mem1 hx]
  case binOp op t x y u =>
    obtain ⟨h1, h2⟩ := mem2 hx
    have e1 : cOp (.binOp op t x y u) = ⟨fun e m K => xBin P op t (bi (isC x) true (isC y)) (ev x e) (ev y e) (fun v => K v m) none⟩ := by kernel_rfl
    rw [e1]
    dsimp only
    rw [h1, h2]
  case unOp op t x =>
    have e1 : cOp (.unOp op t x) = ⟨fun e m K => ovm (xUn op (ev x e)) m K⟩ := by kernel_rfl
    rw [e1]
    dsimp only
    rw [mem1 hx]
  case convert s d x =>
    have e1 : cOp (.convert s d x) = ⟨fun e m K => orm (xConvert P m s d (ev x e)) K⟩ := by kernel_rfl
    rw [e1]
    dsimp only
    rw [mem1 hx]
  case makeInterface t x =>
    have e1 : cOp (.makeInterface t x) = bi (plainT P t) (⟨fun e m K => K (.iface t (ev x e)) m⟩ : Bx Op1) failO := by kernel_rfl
    rw [e1]
    cases plainT P t with
    | false => rfl
    | true =>
      show K (.iface t (ev x e)) m = K (.iface t (ev x e')) m
      rw [mem1 hx]
  case makeFunc f x y =>
    have h1 : evl e x.toList = evl e' x.toList := evl_congr fun z hm => hx z (by simp [Op.operands]; exact .inl (by simpa using hm))
    have h2 : evl e y.toList = evl e' y.toList := evl_congr fun z hm => hx z (by simp [Op.operands]; exact .inr (by simpa using hm))
    cases f
    case func f =>
      show K (.func f (evl e x.toList) (evl e y.toList)) m = K (.func f (evl e' x.toList) (evl e' y.toList)) m
      rw [h1, h2]
    all_goals rfl
  case makeMap t r => cases r <;> rfl
  case makeSlice t x y =>
    obtain ⟨h1, h2⟩ := mem2 hx
    have e1 : cOp (.makeSlice t x y) = ⟨fun e m K => orm (xMakeSlice P m t (ev x e) (ev y e)) K⟩ := by kernel_rfl
    rw [e1]
    dsimp only
    rw [h1, h2]
  case slice t x lo hi mx =>
    have h0 : ev x e = ev x e' := hx x (by simp [Op.operands])
    have h1 := @xSlice_congr m e e' P t (ev x e') lo hi mx (fun y hy => hx y (by subst hy; simp [Op.operands])) (fun y hy => hx y (by subst hy; simp [Op.operands])) (fun y hy => hx y (by subst hy; simp [Op.operands]))
    have e1 : cOp (.slice t x lo hi mx) = ⟨fun e m K => ovm (xSlice P e m t (ev x e) lo hi mx) m K⟩ := by kernel_rfl
    rw [e1]
    dsimp only
    rw [h0, h1]
  case fieldAddr t x i =>
    have e1 : cOp (.fieldAddr t x i) = ⟨fun e m K => fieldAddrK P t i (ev x e) (fun v => K v m) none⟩ := by kernel_rfl
    rw [e1]
    dsimp only
    rw [mem1 hx]
  case field t x i =>
    have e1 : cOp (.field t x i) = ⟨fun e m K => ovm (xField P t (ev x e) i) m K⟩ := by kernel_rfl
    rw [e1]
    dsimp only
    rw [mem1 hx]
  case indexAddr t x y =>
    obtain ⟨h1, h2⟩ := mem2 hx
    have e1 : cOp (.indexAddr t x y) = ⟨fun e m K => indexAddrK P t (ev x e) (ev y e) (fun v => K v m) none⟩ := by kernel_rfl
    rw [e1]
    dsimp only
    rw [h1, h2]
  case index t x y =>
    obtain ⟨h1, h2⟩ := mem2 hx
    have e1 : cOp (.index t x y) = ⟨fun e m K => ovm (xIndex P t (ev x e) (ev y e)) m K⟩ := by kernel_rfl
    rw [e1]
    dsimp only
    rw [h1, h2]
  case lookup t x y ok =>
    obtain ⟨h1, h2⟩ := mem2 hx
    have e1 : cOp (.lookup t x y ok) = ⟨fun e m K => ovm (xLookup P m t (ev x e) (ev y e) ok) m K⟩ := by kernel_rfl
    rw [e1]
    dsimp only
    rw [h1, h2]
  case range t x =>
    have e1 : cOp (.range t x) = ⟨fun e m K => orm (xRange P m t (ev x e)) K⟩ := by kernel_rfl
    rw [e1]
    dsimp only
    rw [mem1 hx]
  case next x s =>
    show alls K (xNext m (ev x e) s) = alls K (xNext m (ev x e') s)
    rw [mem1 hx]
  case entry x =>
    show ovm (xEntry m (ev x e)) m K = ovm (xEntry m (ev x e')) m K
    rw [mem1 hx]
  case typeAssert x t u ok =>
    have e1 : cOp (.typeAssert x t u ok) = ⟨fun e m K => ovm (xTypeAssert P (ev x e) u ok) m K⟩ := by kernel_rfl
    rw [e1]
    dsimp only
    rw [mem1 hx]
  case extract x i =>
    show (ev x e).onTup (fun vs => ovm (headO (dropL i vs)) m K) none = (ev x e').onTup (fun vs => ovm (headO (dropL i vs)) m K) none
    rw [mem1 hx]
  all_goals rfl
end Go.Proofs.YtiekoeapmhhjbaaGreatDoor.X
