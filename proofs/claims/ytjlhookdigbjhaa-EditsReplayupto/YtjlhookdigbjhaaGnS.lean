/- Part S of the second layer: a row of one's own that a sort of the library's leaves in another order. -/
import Derived.Test.YtjlhookdigbjhaaGnE
import Derived.Shelf.SlSortCmp.KitK
namespace Go.Proofs.Ytjlhookdigbjhaa.Sx
open Go Go.RowKit Go.Sort
set_option linter.unusedVariables false
set_option linter.unusedSimpArgs false
section
variable {w w0 : World} {X : List Res} {ζ : Zp} {α : Type} [Inhabited α]
theorem flatK_list (enc : α → List Value) (k : Nat) (hk : ∀ x, (enc x).length = k) (xs : List α) : (flatK enc k xs.toArray).toList = (xs.map enc).flatten := by
  have hl : ∀ c ∈ xs.map enc, c.length = k := by
    intro c hc
    obtain ⟨x, _, rfl⟩ := List.mem_map.1 hc
    exact hk x
  have hlen : (xs.map enc).flatten.length = xs.length * k := by rw [flat_len hl, List.length_map]
  apply List.ext_getElem?
  intro t
  by_cases ht : t < xs.length * k
  · have hk0 : 0 < k := by
      rcases Nat.eq_zero_or_pos k with h | h
      · rw [h] at ht; omega
      · exact h
    have h1 : t / k < xs.length := (Nat.div_lt_iff_lt_mul hk0).2 ht
    have h2 : t % k < k := Nat.mod_lt _ hk0
    have e1 : (xs.map enc)[t / k]? = some (enc xs[t / k]) := by rw [List.getElem?_map, List.getElem?_eq_getElem h1]; rfl
    have e2 : (enc xs[t / k])[t % k]? = some ((enc xs[t / k])[t % k]'(by rw [hk]; exact h2)) := List.getElem?_eq_getElem _
    have e3 := take_at hl e1 _ _ e2
    rw [Nat.div_add_mod'] at e3
    rw [e3, Array.getElem?_toList]
    have hs : t < (flatK enc k xs.toArray).size := by simpa using ht
    rw [Array.getElem?_eq_getElem hs]
    congr 1
    have := get_flatK enc k xs.toArray t (by simpa using ht)
    rw [getElem!_pos _ t hs] at this
    rw [this]
    have e4 : xs.toArray[t / k]! = xs[t / k] := by simp [h1]
    rw [e4, List.getElem!_eq_getElem?_getD, e2]
    rfl
  · rw [List.getElem?_eq_none (by simp; omega), List.getElem?_eq_none (by omega)]
omit [Inhabited α] in
theorem Cs.enc_eq {τ : Ty α} (enc : α → List Value) (hR : ∀ ζ cs x, τ.R ζ cs x → cs = enc x) {cells : List Value} {xs : List α} (h : Cs τ ζ cells xs) : cells = (xs.map enc).flatten := by
  obtain ⟨css, h1, rfl⟩ := h
  congr 1
  induction xs generalizing css with
  | nil => cases css with
    | nil => rfl
    | cons c css => exact absurd h1 (by simp [All2])
  | cons x xs ih => cases css with
    | nil => exact absurd h1 (by simp [All2])
    | cons c css => rw [List.map_cons, ← ih css h1.2, hR _ _ _ h1.1]
omit [Inhabited α] in
theorem Cs.of_enc {τ : Ty α} (enc : α → List Value) (hR : ∀ ζ x, τ.R ζ (enc x) x) (xs : List α) : Cs τ ζ (xs.map enc).flatten xs := by
  refine ⟨xs.map enc, ?_, rfl⟩
  induction xs with
  | nil => trivial
  | cons x xs ih => exact ⟨hR _ _, ih⟩
/-- .. what the library's contract asks of the row. -/
theorem St.holdsK {τ : Ty α} (enc : α → List Value) (hk : ∀ x, (enc x).length = τ.sz) (hR : ∀ ζ cs x, τ.R ζ cs x → cs = enc x) {blk off c n E : Nat} {cells : List Value} {xs : List α}
    (hst : Ht w0 (frz ζ :: orow E τ.sz (.slice (some ⟨blk, off, none⟩) n c) n cells :: X) w) (hC : Cs τ ζ cells xs) : HoldsK enc τ.sz w blk off xs.toArray ∧ blk < w.heap.size := by
  have hlt := hst.lt (i := 1) rfl (k := blk) rfl
  obtain ⟨q1, q2, q3⟩ := hst.get (i := 1) rfl
  rcases q3 with ⟨he, _⟩ | ⟨g, o, cap, cur, he, hg, hcl, hcm, hcs, htk⟩
  · cases he
  · cases he
    refine ⟨fun j hj => ?_, hlt⟩
    have hg' : w.heap[blk]? = some (.cells cur E (0, 0)) := hg
    have hcells := hC.enc_eq enc hR
    rw [← flatK_list enc τ.sz hk xs] at hcells
    have hj' : j < cells.length := by rw [hcells]; simpa using hj
    obtain ⟨u, hu⟩ : ∃ u, cells[j]? = some u := ⟨_, List.getElem?_eq_getElem hj'⟩
    have e1 : cur[off + j]? = some u := by
      have h := hu
      rw [← htk, List.getElem?_take] at h
      split at h
      · rw [List.getElem?_drop, Array.getElem?_toList] at h
        exact h
      · cases h
    have e2 : (flatK enc τ.sz xs.toArray)[j]! = u := by
      rw [hcells, Array.getElem?_toList, Array.getElem?_eq_getElem hj] at hu
      rw [getElem!_pos _ j hj]
      exact Option.some.inj hu
    refine ⟨?_, by simp [World.frozen?, hg']⟩
    rw [e2]
    simp [World.cell?, hg', e1]
/-- .. and what it leaves. -/
theorem St.sortedK {τ : Ty α} (enc : α → List Value) (hk : ∀ x, (enc x).length = τ.sz) (hR : ∀ ζ x, τ.R ζ (enc x) x) (h1 : ∀ x, ∀ v ∈ enc x, v.oneCell' = true) {blk off c n E : Nat} {cells : List Value}
    (hst : Ht w0 (frz ζ :: orow E τ.sz (.slice (some ⟨blk, off, none⟩) n c) n cells :: X) w) (ys : List α) (hy : ys.length = n) (m : Nat) (os : Array Obj) :
    Ht w0 (frz ζ :: orow E τ.sz (.slice (some ⟨blk, off, none⟩) n c) n (ys.map enc).flatten :: X) (sortWorldK enc τ.sz w blk off m ys.toArray os) := by
  have hlt := hst.lt (i := 1) rfl (k := blk) rfl
  obtain ⟨q1, q2, q3⟩ := hst.get (i := 1) rfl
  rcases q3 with ⟨he, _⟩ | ⟨g, o, cap, cur, he, hg, hcl, hcm, hcs, htk⟩
  · cases he
  · cases he
    have hg' : w.heap[blk]? = some (.cells cur E (0, 0)) := hg
    obtain ⟨F, hF⟩ : ∃ F, F = flatK enc τ.sz ys.toArray := ⟨_, rfl⟩
    have hFl : F.toList = (ys.map enc).flatten := by rw [hF]; exact flatK_list enc τ.sz hk ys
    have hFs : F.size = n * τ.sz := by rw [hF]; simp [hy]
    have hheap : ∀ k, k < w.heap.size → (sortWorldK enc τ.sz w blk off m ys.toArray os).heap[k]? = (w.heap.modify blk (onCells (putCells id off F)))[k]? := by
      intro k hk'
      show ((w.heap.modify blk (onCells (putCells id off (flatK enc τ.sz ys.toArray)))) ++ os)[k]? = _
      rw [Array.getElem?_append_left (by simpa using hk'), hF]
    have hsz : w.heap.size ≤ (sortWorldK enc τ.sz w blk off m ys.toArray os).heap.size := by
      show w.heap.size ≤ ((w.heap.modify blk (onCells (putCells id off (flatK enc τ.sz ys.toArray)))) ++ os).size
      simp
    refine hst.upd (R' := orow E τ.sz (.slice (some ⟨blk, off, none⟩) n c) n (ys.map enc).flatten) 1 rfl ⟨rfl, rfl, rfl, hsz, fun k hk' hne => ?_⟩ ?_ (fun k hk' => ⟨.inl hk', Nat.lt_of_lt_of_le (hst.lt (i := 1) rfl hk') hsz⟩)
    · rw [hheap k hk', Array.getElem?_modify, if_neg (fun h => hne (by subst h; rfl))]
    · refine ⟨by rw [← hFl, Array.length_toList, hFs], fun u hu => ?_, .inr ⟨blk, off, c, putCells id off F cur, rfl, ?_, hcl, hcm, by simpa [putCells] using hcs, ?_⟩⟩
      · obtain ⟨l, hl, hu'⟩ := List.mem_flatten.1 hu
        obtain ⟨x, _, rfl⟩ := List.mem_map.1 hl
        exact h1 x u hu'
      · show (sortWorldK enc τ.sz w blk off m ys.toArray os).heap[blk]? = _
        rw [hheap blk hlt, Array.getElem?_modify, if_pos rfl, hg']
        rfl
      · rw [← hFl]
        have hnc : n * τ.sz ≤ c * τ.sz := Nat.mul_le_mul_right _ hcl
        apply List.ext_getElem?
        intro t
        rw [List.getElem?_take]
        split
        · rename_i ht
          rw [List.getElem?_drop, Array.getElem?_toList, Array.getElem?_toList]
          have h2 : off + t < cur.size := by omega
          have h3 : t < F.size := by omega
          simp only [putCells, Array.getElem?_mapIdx, Array.getElem?_eq_getElem h2, Option.map_some, Array.getElem?_eq_getElem h3]
          rw [if_pos ⟨by omega, by omega⟩]
          simp [h3]
        · rename_i ht
          rw [List.getElem?_eq_none (by simp; omega)]
end
end Go.Proofs.Ytjlhookdigbjhaa.Sx
