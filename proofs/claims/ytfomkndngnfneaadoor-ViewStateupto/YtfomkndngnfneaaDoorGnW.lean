/- The row's side once more, where what comes in is of a bulk at most B: what is read is no longer than that. -/
import Derived.Test.YtfomkndngnfneaaDoorGnR
import Derived.Test.YtfomkndngnfneaaDoorRowBulk
namespace Go.Proofs.YtfomkndngnfneaaDoor.Sx
open Go Go.RowKit Go.ChangeShapes Go.WideShapes Go.ChangeAt
set_option linter.unusedVariables false
set_option linter.unusedSimpArgs false
section
variable {P : Program} {W : World} {α : Type} {B : Nat}
def Db (P : Program) (W : World) (B : Nat) (t : TypeId) (τ : Ty α) (wf : α → Prop) : Prop :=
  ∀ {H : Type} (enc : TypeId × Value → H) (sp : Nat → Bool) (hd : Bool) (fuel : Nat) (cs : List Value) (x : DataW H × List MemPlace), DataW.trod enc P W 0 sp hd fuel t cs = some x → Rows.uptoBulk x.1 ≤ B → ∃ a, τ.R (hp W) cs a ∧ wf a
theorem Db.of {t : TypeId} {τ : Ty α} {wf : α → Prop} (h : Dn P W t τ wf) : Db P W B t τ wf := fun enc sp hd fuel cs x hx _ => h enc sp hd fuel cs x hx
theorem Db.str {t : TypeId} (ht : P.underlying t = some .string) : Db P W B t tS (fun s => s.length ≤ B) := fun enc sp hd fuel cs x h hB => by
  obtain ⟨s, rfl, rfl, hw⟩ := DataW.trod_string ht h
  simp only [Rows.uptoBulk] at hB
  exact ⟨s.data.toList, rfl, by show s.data.toList.length ≤ B; omega⟩
/-- A slice of what is read. -/
theorem Db.slice {t e : TypeId} {τ : Ty α} {wf : α → Prop} (ht : P.underlying t = some (.slice e)) (he : Db P W B e τ wf) (hc : P.cellsOf e = τ.sz) (hpos : 0 < τ.sz) : Db P W B t (tSl τ) (fun xs => (∀ x ∈ xs, wf x) ∧ xs.length ≤ B) := fun enc sp hd fuel cs x h hB => by
  rcases DataW.trod_slice ht h with ⟨rfl, _⟩ | ⟨a, len, cap, elems, rest, n, _, rfl, hxe, _, hl, hm, hlen, hel, _⟩
  · exact ⟨[], ⟨none, 0, rfl, Sl.nil _ _⟩, fun _ h => (by cases h), Nat.zero_le _⟩
  · subst hxe
    have hbulk : Rows.uptoBulkAll (elems.map (·.1)) ≤ B := by simp only [Rows.uptoBulk] at hB; omega
    have hlenB : len ≤ B := by have := Bulk.length_le (elems.map (·.1)); rw [List.length_map] at this; omega
    have each : ∀ i, i < len → ∃ c x, W.cells? 0 (a.add (i * P.cellsOf e)) (P.cellsOf e) = some c ∧ τ.R (hp W) c x ∧ wf x := by
      intro i hi
      have h1 := hel i hi
      rw [List.getElem?_eq_getElem (by omega)] at h1
      obtain ⟨c, h2, h3⟩ := Option.bind_eq_some_iff.1 h1
      obtain ⟨x, hr, hw⟩ := he enc sp hd n c _ h3 (Nat.le_trans (Bulk.part_le (List.mem_map.2 ⟨_, List.getElem_mem _, rfl⟩)) hbulk)
      exact ⟨c, x, h2, hr, hw⟩
    by_cases h0 : len = 0
    · subst h0
      exact ⟨[], ⟨some a, cap, rfl, hl, hm, [], Cs.nil _ _, .inl rfl⟩, fun _ h => (by cases h), Nat.zero_le _⟩
    -- the elements, as many as there are
    have hsp : a.spot = none := by
      obtain ⟨c, x, h1, hr, _⟩ := each 0 (by omega)
      obtain ⟨hlc, hcell⟩ := cells_some h1
      have h2 := hcell 0 (c[0]'(by omega)) (List.getElem?_eq_getElem _)
      have h3 := spot_of_cell h2
      simpa [Addr.add] using h3
    have key : ∀ m, m ≤ len → ∃ (css : List (List Value)) (xs : List α), xs.length = m ∧ All2 (τ.R (hp W)) css xs ∧ (∀ x ∈ xs, wf x) ∧ Zc (hp W) a.block a.off css.flatten := by
      intro m
      induction m with
      | zero => intro _; exact ⟨[], [], rfl, trivial, fun _ h => (by cases h), fun j u hj => by simp at hj⟩
      | succ m ih =>
        intro hm1
        obtain ⟨css, xs, h1, h2, h3, h4⟩ := ih (by omega)
        obtain ⟨c, x, h5, hr, hw⟩ := each m (by omega)
        obtain ⟨hlc, hcell⟩ := cells_some h5
        refine ⟨css ++ [c], xs ++ [x], by simp [h1], h2.append ⟨hr, trivial⟩, fun y hy => ?_, fun j u hj => ?_⟩
        · rcases List.mem_append.1 hy with hy | hy
          · exact h3 y hy
          · rw [List.mem_singleton] at hy; subst hy; exact hw
        · have hfl : css.flatten.length = m * τ.sz := by rw [flat_len h2.lens, h2.length, h1]
          rw [List.flatten_append] at hj
          by_cases hjl : j < css.flatten.length
          · rw [List.getElem?_append_left hjl] at hj
            exact h4 j u hj
          · rw [List.getElem?_append_right (by omega), hfl] at hj
            have h6 := hcell (j - m * τ.sz) u (by simpa using hj)
            rw [hc, addr_lit hsp, addr_lit rfl] at h6
            rw [zc_hp]
            rw [show a.off + m * τ.sz + (j - m * τ.sz) = a.off + j by omega] at h6
            exact h6
    obtain ⟨css, xs, h1, h2, h3, h4⟩ := key len (Nat.le_refl _)
    refine ⟨xs, ⟨some a, cap, by rw [h1], by rw [h1]; exact hl, hm, css.flatten, ⟨css, h2, rfl⟩, .inr ⟨a.block, a.off, ?_, h4⟩⟩, h3, by rw [h1]; exact hlenB⟩
    obtain ⟨b, o, sp'⟩ := a
    simp only at hsp
    subst hsp
    rfl
/-- A struct's field. -/
theorem Db.field {H : Type} {enc : TypeId × Value → H} {sp : Nat → Bool} {hd : Bool} {fuel : Nat} {cs : List Value} {x : DataW H × List MemPlace} {t : TypeId} {fs : Array Field} (ht : P.underlying t = some (.struct fs)) (h : DataW.trod enc P W 0 sp hd fuel t cs = some x) (hB : Rows.uptoBulk x.1 ≤ B) :
    cs.length = P.cellsOf t ∧ ∀ (i : Nat) (f : Field) (β : Type) (τ : Ty β) (wf : β → Prop), fs[i]? = some f → Db P W B f.type τ wf → ∃ a, τ.R (hp W) ((cs.drop f.offset).take (P.cellsOf f.type)) a ∧ wf a := by
  obtain ⟨xs, n, _, hxe, hl, hlen, hf⟩ := DataW.trod_struct ht h
  subst hxe
  have hbulk : Rows.uptoBulkAll (xs.map (·.1)) ≤ B := by simp only [Rows.uptoBulk] at hB; omega
  refine ⟨hl, fun i f β τ wf hi hD => ?_⟩
  have h1 := hf i f hi
  have hlt : i < xs.length := by
    rw [hlen]
    rcases Nat.lt_or_ge i fs.size with h' | h'
    · exact h'
    · rw [Array.getElem?_eq_none h'] at hi; cases hi
  rw [List.getElem?_eq_getElem hlt] at h1
  exact hD enc sp hd n _ _ h1 (Nat.le_trans (Bulk.part_le (List.mem_map.2 ⟨_, List.getElem_mem _, rfl⟩)) hbulk)
end
end Go.Proofs.YtfomkndngnfneaaDoor.Sx
