/- A small logic of walks, part F: slices: rows of one's own, rows that are read, append. -/
import Derived.Test.YtiekoeapmhhjbaaGreatDoorSxE
import Derived.ArgAppend
namespace Go.Proofs.YtiekoeapmhhjbaaGreatDoor.Sx
open Go Go.RowKit
set_option linter.unusedVariables false
set_option linter.unusedSimpArgs false
/-- A slice's elements, as they may be read now. -/
def Rd (w : World) (sz : Nat) (v : Value) (m : Nat) (news : List Value) : Prop :=
  news.length = m * sz ∧ (∀ u ∈ news, u.oneCell' = true) ∧ ∃ A c, v = .slice A m c ∧ m ≤ c ∧ ((A = none ∧ m = 0) ∨ ∃ ad, A = some ad ∧ (0 < m → ad.spot = none) ∧ ∀ j u, news[j]? = some u → w.cell? ⟨ad.block, ad.off + j, none⟩ = some u)
/-- A row of one's own. -/
def orow (E sz : Nat) (v : Value) (n : Nat) (xs : List Value) : Res where
  S := fun k => v.ownBlock = some k
  p := fun h => xs.length = n * sz ∧ (∀ u ∈ xs, u.oneCell' = true) ∧ ((v = .slice none 0 0 ∧ n = 0) ∨
    ∃ g o cap cur, v = .slice (some ⟨g, o, none⟩) n cap ∧ h g = some (.cells cur E (0, 0)) ∧ n ≤ cap ∧ cap ≤ maxLen ∧ o + cap * sz ≤ cur.size ∧ (cur.toList.drop o).take (n * sz) = xs)
  loc := by
    rintro h h' hs ⟨h1, h2, h3⟩
    refine ⟨h1, h2, ?_⟩
    rcases h3 with h3 | ⟨g, o, cap, cur, rfl, hg, r⟩
    · exact .inl h3
    · exact .inr ⟨g, o, cap, cur, rfl, (hs g rfl).trans hg, r⟩
variable {P : Program} {n : Fm} {Qf : Exit → Act → World → Prop} {k : List It} {e : Env} {w w' w0 : World} {F0 : Nat → Prop} {H : List Res} {ops : Array Oper} {rest : List Oper} {T : TypeId} {pos : String} {af : Array Edge} {d : Nat}
theorem addr_lit {a : Addr} (hs : a.spot = none) (j : Nat) : a.add j = ⟨a.block, a.off + j, none⟩ := by
  obtain ⟨b, o, s⟩ := a
  simp only at hs
  subst hs
  unfold Addr.add
  split <;> simp_all
theorem own_nil (E sz : Nat) (h : Nat → Option Obj) : (orow E sz (.slice none 0 0) 0 []).p h := ⟨by simp, fun _ h => (by cases h), .inl ⟨rfl, rfl⟩⟩
theorem own_rd {E sz : Nat} {v : Value} {m : Nat} {xs : List Value} (h : (orow E sz v m xs).p (hp w)) : Rd w sz v m xs := by
  obtain ⟨h1, h2, h3⟩ := h
  refine ⟨h1, h2, ?_⟩
  rcases h3 with ⟨rfl, rfl⟩ | ⟨g, o, cap, cur, rfl, hg, hc, hm, hsz, ht⟩
  · exact ⟨none, 0, rfl, Nat.le_refl _, .inl ⟨rfl, rfl⟩⟩
  · refine ⟨_, _, rfl, hc, .inr ⟨_, rfl, fun _ => rfl, fun j u hj => ?_⟩⟩
    have hg' : w.heap[g]? = some (.cells cur E (0, 0)) := hg
    have hcj : cur[o + j]? = some u := by
      rw [← ht, List.getElem?_take] at hj
      split at hj
      · simpa using hj
      · cases hj
    simp [World.cell?, hg', hcj]
theorem Rd.fr {sz : Nat} {v : Value} {m : Nat} {xs : List Value} (h : Rd w sz v m xs) (hf : ∀ k, v.ownBlock = some k → w'.heap[k]? = w.heap[k]?) : Rd w' sz v m xs := by
  obtain ⟨h1, h2, A, c, rfl, hc, h3⟩ := h
  refine ⟨h1, h2, A, c, rfl, hc, ?_⟩
  rcases h3 with h3 | ⟨ad, rfl, hs, h3⟩
  · exact .inl h3
  · refine .inr ⟨ad, rfl, hs, fun j u hj => ?_⟩
    rw [World.cell?_of_block (w := w) (w' := w') (a := ⟨ad.block, ad.off + j, none⟩) (hf ad.block rfl)]
    exact h3 j u hj
theorem Rd.sub {sz : Nat} {A : Option Addr} {m c : Nat} {xs : List Value} (h : Rd w sz (.slice A m c) m xs) (i j c' : Nat) (hij : i ≤ j) (hj : j ≤ m) (hc' : j - i ≤ c') (A' : Option Addr) (hA : A' = A.map (·.add (i * sz)) ∨ (A' = A ∧ j = i)) :
    Rd w sz (.slice A' (j - i) c') (j - i) ((xs.drop (i * sz)).take ((j - i) * sz)) := by
  obtain ⟨h1, h2, A1, c1, he, hc, h3⟩ := h
  cases he
  have hl : (j - i) * sz ≤ xs.length - i * sz := by
    rw [h1, ← Nat.mul_sub_right_distrib]
    exact Nat.mul_le_mul_right _ (by omega)
  refine ⟨by simp; omega, fun u hu => h2 u (List.mem_of_mem_drop (List.mem_of_mem_take hu)), A', c', rfl, hc', ?_⟩
  rcases h3 with ⟨rfl, rfl⟩ | ⟨ad, rfl, hs, h3⟩
  · left
    have h0 : j - i = 0 := by omega
    rcases hA with rfl | ⟨rfl, _⟩
    · exact ⟨rfl, h0⟩
    · exact ⟨rfl, h0⟩
  · right
    rcases hA with rfl | ⟨rfl, he⟩
    · by_cases hm0 : m = 0
      · refine ⟨ad.add (i * sz), rfl, fun h0 => by omega, fun t u ht => ?_⟩
        have h0 : j - i = 0 := by omega
        simp [h0] at ht
      have hs := hs (by omega)
      refine ⟨⟨ad.block, ad.off + i * sz, none⟩, by rw [Option.map_some, addr_lit hs], fun _ => rfl, fun t u ht => ?_⟩
      have : xs[i * sz + t]? = some u := by
        rw [List.getElem?_take] at ht
        split at ht
        · simpa using ht
        · cases ht
      have := h3 _ _ this
      rw [← Nat.add_assoc] at this
      exact this
    · refine ⟨ad, rfl, fun h0 => hs (by omega), fun t u ht => ?_⟩
      subst he
      simp at ht
theorem St.rd (h : St w0 F0 H w) {i : Nat} {E sz : Nat} {v : Value} {m : Nat} {xs : List Value} (hi : H[i]? = some (orow E sz v m xs)) : Rd w sz v m xs := own_rd (h.get hi)
theorem Rd.shape {sz : Nat} {v : Value} {m : Nat} {xs : List Value} (h : Rd w sz v m xs) : ∃ A c, v = .slice A m c ∧ m ≤ c ∧ (0 < m → ∃ g o, A = some ⟨g, o, none⟩) := by
  obtain ⟨h1, h2, A, c, rfl, hc, h3⟩ := h
  refine ⟨A, c, rfl, hc, fun h0 => ?_⟩
  rcases h3 with ⟨_, rfl⟩ | ⟨⟨g, o, s⟩, rfl, hs, _⟩
  · omega
  · have hs := hs h0; simp only at hs; subst hs; exact ⟨g, o, rfl⟩
theorem Rd.cell {sz g o m c : Nat} {xs : List Value} (h : Rd w sz (.slice (some ⟨g, o, none⟩) m c) m xs) {j : Nat} {u : Value} (hj : xs[j]? = some u) : w.cell? ⟨g, o + j, none⟩ = some u := by
  obtain ⟨h1, h2, A, c', he, hc, h3⟩ := h
  cases he
  rcases h3 with ⟨h3, _⟩ | ⟨ad, he, hs, h3⟩
  · cases h3
  · cases he; exact h3 j u hj
theorem own_cap {E sz : Nat} {A : Option Addr} {l c m : Nat} {xs : List Value} (h : (orow E sz (.slice A l c) m xs).p (hp w)) : l = m ∧ m ≤ c ∧ c ≤ maxLen := by
  obtain ⟨h1, h2, h3⟩ := h
  rcases h3 with ⟨he, rfl⟩ | ⟨g, o, cap, cur, he, hg, hc, hm, r⟩
  · cases he; exact ⟨rfl, Nat.le_refl _, Nat.zero_le _⟩
  · cases he; exact ⟨rfl, hc, hm⟩
/-- A block that has just been made is a row. -/
theorem own_of_blk {g E sz l : Nat} {cs : List Value} (h : (blk g cs E).p (hp w)) (hl : cs.length = l * sz) (hm : l ≤ maxLen) (h1 : ∀ u ∈ cs, u.oneCell' = true) : (orow E sz (.slice (some ⟨g, 0, none⟩) l l) l cs).p (hp w) :=
  ⟨hl, h1, .inr ⟨g, 0, l, _, rfl, h, Nat.le_refl _, hm, by simp [hl], by simp [← hl]⟩⟩
theorem St.ownOf (hst : St w0 F0 H w) (i : Nat) {g E sz l : Nat} {cs : List Value} (hi : H[i]? = some (blk g cs E)) (hl : cs.length = l * sz) (hm : l ≤ maxLen) (h1 : ∀ u ∈ cs, u.oneCell' = true) : St w0 F0 (H.set i (orow E sz (.slice (some ⟨g, 0, none⟩) l l) l cs)) w :=
  hst.upd i hi (Fr.refl _ _) (own_of_blk (hst.get hi) hl hm h1) (fun k hk => by
    have hk' : k = g := by
      have h2 : some g = some k := hk
      exact (Option.some.inj h2).symm
    exact ⟨.inl hk', hst.lt hi hk'⟩)
/-- A row is cut: its first j elements, with less capacity. -/
theorem own_cut {E sz m c : Nat} {A : Option Addr} {xs : List Value} (h : (orow E sz (.slice A m c) m xs).p (hp w)) (i j c' : Nat) (hij : i ≤ j) (hj : j ≤ m) (hc1 : j - i ≤ c') (hc2 : i + c' ≤ c) (A' : Option Addr) (hA : A' = A.map (·.add (i * sz)) ∨ (A' = A ∧ i = 0)) :
    (orow E sz (.slice A' (j - i) c') (j - i) ((xs.drop (i * sz)).take ((j - i) * sz))).p (hp w) := by
  obtain ⟨h1, h2, h3⟩ := h
  have hl : (j - i) * sz ≤ xs.length - i * sz := by
    rw [h1, ← Nat.mul_sub_right_distrib]
    exact Nat.mul_le_mul_right _ (by omega)
  refine ⟨by simp; omega, fun u hu => h2 u (List.mem_of_mem_drop (List.mem_of_mem_take hu)), ?_⟩
  rcases h3 with ⟨he, rfl⟩ | ⟨g, o, cap, cur, he, hg, hc, hm, hsz, ht⟩
  · cases he
    have h0 : j - i = 0 := by omega
    have h0' : c' = 0 := by omega
    left
    rw [h0, h0']
    rcases hA with rfl | ⟨rfl, _⟩ <;> exact ⟨rfl, rfl⟩
  · cases he
    right
    have e1 : A' = some ⟨g, o + i * sz, none⟩ := by
      rcases hA with rfl | ⟨rfl, rfl⟩
      · rw [Option.map_some, addr_lit rfl]
      · simp
    subst e1
    refine ⟨g, o + i * sz, c', cur, rfl, hg, hc1, by omega, ?_, ?_⟩
    · have : i * sz + c' * sz ≤ c * sz := by rw [← Nat.add_mul]; exact Nat.mul_le_mul_right _ hc2
      omega
    · rw [← ht]
      have e2 : (cur.toList.drop (o + i * sz)) = (cur.toList.drop o).drop (i * sz) := by rw [List.drop_drop]
      rw [e2, List.drop_take, List.take_take]
      congr 1
      rw [← Nat.mul_sub_right_distrib]
      have : (j - i) * sz ≤ (m - i) * sz := Nat.mul_le_mul_right _ (by omega)
      omega
theorem ownBlock_cut {A A' : Option Addr} {l c l' c' t : Nat} (hA : A' = A.map (·.add t) ∨ A' = A) {k : Nat} (h : (Value.slice A' l' c').ownBlock = some k) : (Value.slice A l c).ownBlock = some k := by
  rcases hA with rfl | rfl
  · cases A with
    | none => simp [Value.ownBlock] at h
    | some a =>
      simp [Value.ownBlock] at h ⊢
      unfold Addr.add at h
      split at h <;> simpa using h
  · cases A' with
    | none => simp [Value.ownBlock] at h
    | some a => exact h
theorem St.cut (hst : St w0 F0 H w) (r : Nat) {E sz m c : Nat} {A : Option Addr} {xs : List Value} (hi : H[r]? = some (orow E sz (.slice A m c) m xs)) (i j c' : Nat) (hij : i ≤ j) (hj : j ≤ m) (hc1 : j - i ≤ c') (hc2 : i + c' ≤ c) (A' : Option Addr) (hA : A' = A.map (·.add (i * sz)) ∨ (A' = A ∧ i = 0)) :
    St w0 F0 (H.set r (orow E sz (.slice A' (j - i) c') (j - i) ((xs.drop (i * sz)).take ((j - i) * sz)))) w :=
  hst.upd r hi (Fr.refl _ _) (own_cut (hst.get hi) i j c' hij hj hc1 hc2 A' hA) (fun k hk => by
    have hk' : (Value.slice A m c).ownBlock = some k := ownBlock_cut (t := i * sz) (l' := j - i) (c' := c') (hA.imp id And.left) hk
    exact ⟨.inl hk', hst.lt hi hk'⟩)
/-! ### append -/
theorem run_append_at (t ty E : TypeId) (i : TypeInfo) (ht : P.underlying t = some (.slice E)) (hi : P.info? E = some i) (g o l cap : Nat) (cur : Array Value) (hg : w.heap[g]? = some (.cells cur E (0, 0)))
    (a : Addr) (m c : Nat) (news : List Value) (hl : news.length = m * i.size) (hnews : ∀ j u, news[j]? = some u → w.cell? (a.add j) = some u) (h1 : ∀ u ∈ news, u.oneCell' = true) (hroom : l + m ≤ cap) (hfit : o + l * i.size + news.length ≤ cur.size) :
    (Builtin.append_ #[t, t] ty #[.slice (some ⟨g, o, none⟩) l cap, .slice (some a) m c]).run P w = .ok (.slice (some ⟨g, o, none⟩) (l + m) cap)
      (w.setRow g (cur.toList.take (o + l * i.size) ++ news ++ cur.toList.drop (o + l * i.size + news.length)).toArray) := by
  have hfc := run_firstCells_some (P := P) w i.size m a m c news hl hnews
  have hst := run_storeCells_at (P := P) g (o + l * i.size) E news 0 cur w hg (by simpa using hfit) h1
  simp only [Nat.add_zero] at hst
  simp [Builtin.append_, run_underlying ht, sizeOf, typeInfo, hi, Builtin.lenOf, hroom, hfc, Addr.add_lit, hst]
theorem run_append_row (t ty E : TypeId) (z : Value) (sz by_ : Nat) (ht : P.underlying t = some (.slice E)) (hinfo : (P.info? E).map (fun i => (i.zero, i.size, i.bytes)) = some (some z, sz, by_)) (hzs : z.cells.size = sz) (hsz : 0 < sz)
    {v s : Value} {l m : Nat} {xs news : List Value} (hv : (orow E sz v l xs).p (hp w)) (hs : Rd w sz s m news) (h63 : l + m ≤ maxLen) (hbytes : (l + m) * by_ ≤ 140737488355328) (hblk : ∀ k, v.ownBlock = some k → k < w.heap.size) :
    ∃ v' w', (Builtin.append_ #[t, t] ty #[v, s]).run P w = .ok v' w' ∧ (orow E sz v' (l + m) (xs ++ news)).p (hp w') ∧ Fr w w' (fun k => v.ownBlock = some k) ∧
      (∀ k, v'.ownBlock = some k → (v.ownBlock = some k ∨ w.heap.size ≤ k) ∧ k < w'.heap.size) ∧ (v' = .slice none 0 0 ↔ v = .slice none 0 0 ∧ m = 0) := by
  obtain ⟨i, hi, hz, hsize, hby⟩ := info_parts hinfo
  obtain ⟨hs1, hs2, A, c, rfl, hc, hs3⟩ := hs
  have hsmall : l + m ≤ 9223372036854775807 := by simp only [maxLen] at h63; omega
  have hv0 := hv
  obtain ⟨hv1, hv2, hv3⟩ := hv
  have hlen : (xs ++ news).length = (l + m) * sz := by rw [List.length_append, hv1, hs1, Nat.add_mul]
  have hone : ∀ u ∈ xs ++ news, u.oneCell' = true := fun u hu => (List.mem_append.1 hu).elim (hv2 u) (hs2 u)
  -- nothing is appended
  have none_case : m = 0 → news = [] → (Builtin.append_ #[t, t] ty #[v, .slice A m c]).run P w = .ok v w → _ := fun h0 hn hr =>
    (⟨v, w, hr, by subst h0 hn; simpa using hv0, Fr.refl _ _, fun k hk => ⟨.inl hk, hblk k hk⟩, by simp [h0]⟩ :
      ∃ v' w', (Builtin.append_ #[t, t] ty #[v, .slice A m c]).run P w = .ok v' w' ∧ (orow E sz v' (l + m) (xs ++ news)).p (hp w') ∧ Fr w w' (fun k => v.ownBlock = some k) ∧
        (∀ k, v'.ownBlock = some k → (v.ownBlock = some k ∨ w.heap.size ≤ k) ∧ k < w'.heap.size) ∧ (v' = .slice none 0 0 ↔ v = .slice none 0 0 ∧ m = 0))
  subst hsize hby
  rcases hs3 with ⟨rfl, rfl⟩ | ⟨ad, rfl, hspot, hcell⟩
  · have hn : news = [] := List.eq_nil_of_length_eq_zero (by simpa using hs1)
    refine none_case rfl hn ?_
    rcases hv3 with ⟨rfl, rfl⟩ | ⟨g, o, cap, cur, rfl, hg, hcap, r⟩
    · simp [Builtin.append_, run_underlying ht, sizeOf, typeInfo, hi, Builtin.lenOf, Builtin.firstCells]
    · simp [Builtin.append_, run_underlying ht, sizeOf, typeInfo, hi, Builtin.lenOf, Builtin.firstCells, hcap, storeCells]
  · have hnews : ∀ j u, news[j]? = some u → w.cell? (ad.add j) = some u := fun j u hj => by
      have h0 : 0 < m := by
        rcases Nat.eq_zero_or_pos m with h0 | h0
        · rw [h0] at hs1
          have : news = [] := List.eq_nil_of_length_eq_zero (by simpa using hs1)
          rw [this] at hj; simp at hj
        · exact h0
      rw [addr_lit (hspot h0)]; exact hcell j u hj
    have grown : ∀ old, old < l + m → ∀ (S : Nat → Prop),
        (orow E i.size (.slice (some ⟨w.heap.size, 0, none⟩) (l + m) (grownCap w (l + m) old E)) (l + m) (xs ++ news)).p (hp (w.drew.alloc (.cells (xs.toArray ++ news.toArray ++ Builtin.zeroCells z.cells (grownCap w (l + m) old E - (l + m))) E))) ∧
        Fr w (w.drew.alloc (.cells (xs.toArray ++ news.toArray ++ Builtin.zeroCells z.cells (grownCap w (l + m) old E - (l + m))) E)) S := by
      intro old ho S
      have hge := grownCap_ge w (l + m) old E
      have hcm : grownCap w (l + m) old E ≤ maxLen := grownCap_le_maxLen w (l + m) old E h63
      refine ⟨⟨hlen, hone, .inr ⟨w.heap.size, 0, _, _, rfl, heap_alloc_new w.drew _, hge, hcm, ?_, ?_⟩⟩, ⟨rfl, rfl, rfl, by simp, fun k hk _ => heap_alloc_old w.drew _ hk⟩⟩
      · simp only [Array.size_append, List.size_toArray, size_zeroCells, hzs, hv1, hs1, ← Nat.add_mul]
        rw [Nat.zero_add]
        exact Nat.mul_le_mul_right _ (by omega)
      · simp only [Array.toList_append, List.append_assoc, List.drop_zero]
        rw [← List.append_assoc, ← hlen]
        exact List.take_left
    have newB : ∀ (c : Array Value) k, (Value.slice (some ⟨w.heap.size, 0, none⟩) (l + m) c.size).ownBlock = some k → True := fun _ _ _ => trivial
    rcases hv3 with ⟨rfl, rfl⟩ | ⟨g, o, cap, cur, rfl, hg, hcap, hcm, hcs, htake⟩
    · have hx : xs = [] := List.eq_nil_of_length_eq_zero (by simpa using hv1)
      subst hx
      by_cases hm : m = 0
      · subst hm
        have hn : news = [] := List.eq_nil_of_length_eq_zero (by simpa using hs1)
        refine none_case rfl hn ?_
        subst hn
        simp [Builtin.append_, run_underlying ht, sizeOf, typeInfo, hi, Builtin.lenOf, Builtin.firstCells, loadCells, loadCellsFrom]
      · have hr := run_append_nil (P := P) w t ty E i z ht hi hz ad m c news hs1 hnews (by omega) (by omega) (by have hb := hbytes; simp only [Nat.zero_add] at hb; omega)
        have hgr := grown 0 (by omega) (fun k => (Value.slice none 0 0).ownBlock = some k)
        simp only [Nat.zero_add, List.nil_append, Array.empty_append] at hgr ⊢
        refine ⟨_, _, hr, hgr.1, hgr.2, fun k hk => ?_, by simp [hm]⟩
        have hk' : w.heap.size = k := by simpa [Value.ownBlock] using hk
        subst hk'
        exact ⟨.inr (Nat.le_refl _), by simp⟩
    · have hg' : w.heap[g]? = some (.cells cur E (0, 0)) := hg
      by_cases hroom : l + m ≤ cap
      · have hfit : o + l * i.size + news.length ≤ cur.size := by
          rw [hs1, Nat.add_assoc, ← Nat.add_mul]
          have := Nat.mul_le_mul_right i.size hroom
          omega
        have hr := run_append_at (P := P) (w := w) t ty E i ht hi g o l cap cur hg' ad m c news hs1 hnews hs2 hroom hfit
        refine ⟨_, _, hr, ⟨hlen, hone, .inr ⟨g, o, cap, _, rfl, setRow_heap w g cur _ E _ hg', hroom, hcm, ?_, ?_⟩⟩, ⟨rfl, rfl, rfl, by simp, fun k hk hne => setRow_other w g k _ (fun he => hne (by simp [Value.ownBlock, he]))⟩, fun k hk => ⟨.inl (by simpa [Value.ownBlock] using hk), ?_⟩, by simp⟩
        · simp only [List.size_toArray, List.length_append, List.length_take, List.length_drop, Array.length_toList]
          omega
        · have hxl : o ≤ cur.toList.length := by simp; omega
          have e1 : (cur.toList.take (o + l * i.size)).drop o = xs := by rw [List.drop_take, ← htake]; congr 1; omega
          have e0 : o ≤ (cur.toList.take (o + l * i.size)).length := by
            have : l * i.size ≤ cap * i.size := Nat.mul_le_mul_right _ hcap
            simp
            omega
          simp only [List.append_assoc]
          rw [List.drop_append_of_le_length e0, e1, ← List.append_assoc, ← hlen]
          exact List.take_left
        · have hk' : g = k := by simpa [Value.ownBlock] using hk
          subst hk'
          have := hblk g rfl
          simpa using this
      · have holds : ∀ j u, xs[j]? = some u → w.cell? ((⟨g, o, none⟩ : Addr).add j) = some u := fun j u hj => by
          rw [addr_lit rfl]
          exact (own_rd hv0).cell hj
        have hr := run_append_grow (P := P) w t ty E i z ht hi hz ⟨g, o, none⟩ l cap xs hv1 holds ad m c news hs1 hnews (by omega) (by omega) (growslice_fits (by omega) hbytes)
        have hgr := grown cap (by omega) (fun k => (Value.slice (some ⟨g, o, none⟩) l cap).ownBlock = some k)
        refine ⟨_, _, hr, hgr.1, hgr.2, fun k hk => ?_, by simp⟩
        have hk' : w.heap.size = k := by simpa [Value.ownBlock] using hk
        subst hk'
        exact ⟨.inr (Nat.le_refl _), by simp⟩
/-- x = append(v, s...): v a row of one's own. -/
theorem Ops.append {args : Array Operand} {tys : Array TypeId} {x y : Operand} {t E : TypeId} {z : Value} {sz by_ l m : Nat} {v s : Value} {xs news : List Value} (i : Nat) (hst : St w0 F0 H w) (hi : H[i]? = some (orow E sz v l xs)) (ha : args = #[x, y]) (hty : tys = #[t, t]) (hx : ev e x = some v) (hy : ev e y = some s)
    (ht : P.underlying t = some (.slice E)) (hinfo : (P.info? E).map (fun i => (i.zero, i.size, i.bytes)) = some (some z, sz, by_)) (hzs : z.cells.size = sz) (hsz : 0 < sz) (hs : Rd w sz s m news) (h63 : l + m ≤ maxLen) (hbytes : (l + m) * by_ ≤ 140737488355328) (hn : Nat.blt d n.size = true)
    (h : ∀ v' w', St w0 F0 (H.set i (orow E sz v' (l + m) (xs ++ news))) w' → (v' = .slice none 0 0 ↔ v = .slice none 0 0 ∧ m = 0) → Ops P n Qf k ops rest ((d, v') :: e) w') : Ops P n Qf k ops (⟨some d, .call ⟨.builtin .append, args, tys⟩, T, pos, af, none⟩ :: rest) e w := by
  subst ha hty
  obtain ⟨v', w', hr, h1, h2, h3, h4⟩ := run_append_row (P := P) (w := w) t T E z sz by_ ht hinfo hzs hsz (hst.get hi) hs h63 hbytes (fun k hk => hst.lt hi hk)
  refine Ops.val (w' := w') rfl rfl hn (fun c hc => ?_) (h v' w' (hst.upd i hi h2 h1 h3) h4)
  simp [execOp, hc _ _ hx, hc _ _ hy, resolve, invoke, builtin, hr]
theorem Rd.later {sz : Nat} {v : Value} {m : Nat} {xs : List Value} (h : Rd w0 sz v m xs) (hst : St w0 F0 H w) (hF : ∀ k, v.ownBlock = some k → ¬ F0 k) : Rd w sz v m xs := by
  obtain ⟨h1, h2, A, c, rfl, hc, h3⟩ := h
  refine ⟨h1, h2, A, c, rfl, hc, ?_⟩
  rcases h3 with h3 | ⟨ad, rfl, hs, h3⟩
  · exact .inl h3
  · refine .inr ⟨ad, rfl, hs, fun j u hj => ?_⟩
    have h0 := h3 j u hj
    have hlt : ad.block < w0.heap.size := World.block_lt_of_cell? w0 ⟨ad.block, ad.off + j, none⟩ h0
    rw [World.cell?_of_block (w := w0) (w' := w) (a := ⟨ad.block, ad.off + j, none⟩) (hst.old hlt (hF _ rfl))]
    exact h0
theorem St.after0 (h : St w0 F0 H w) (h' : St w (fps []) [] w') : St w0 F0 H w' := h.back (H1 := []) h'
theorem fps_nil (k : Nat) : ¬ fps [] k := fun ⟨_, h, _⟩ => (by cases h)
end Go.Proofs.YtiekoeapmhhjbaaGreatDoor.Sx
