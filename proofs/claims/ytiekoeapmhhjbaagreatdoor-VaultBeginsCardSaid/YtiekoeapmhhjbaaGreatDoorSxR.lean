/- A small logic of walks, part R: rows: what a law's arguments are, in the words of part F. -/
import Derived.Test.YtiekoeapmhhjbaaGreatDoorSxI
import Derived.ProofKit
import Derived.OpenShut
import Derived.ShutString
import Derived.ChangeOld
import Derived.ChangeSlices
import Derived.SliceStrings
import Derived.Below
import Derived.SizedLaws
import Derived.JoinedCond
namespace Go.Proofs.YtiekoeapmhhjbaaGreatDoor.Sx
open Go Go.RowKit Go.ChangeShapes Go.WideShapes Go.ChangeAt
set_option linter.unusedVariables false
set_option linter.unusedSimpArgs false
variable {P : Program} {H : Type} {enc : TypeId × Value → H} {W : World}
theorem u8_of {a : Int} (h : (Lit.int .u8 a).wf = true) : 0 ≤ a ∧ a < 256 := by
  simp [Lit.wf, IntKind.min, IntKind.max, IntKind.signed, IntKind.bits] at h
  omega
theorem i8_of {a : Int} (h : (Lit.int .i8 a).wf = true) : -128 ≤ a ∧ a < 128 := by
  simp [Lit.wf, IntKind.min, IntKind.max, IntKind.signed, IntKind.bits] at h
  omega
theorem u16_of {a : Int} (h : (Lit.int .u16 a).wf = true) : 0 ≤ a ∧ a < 65536 := by
  simp [Lit.wf, IntKind.min, IntKind.max, IntKind.signed, IntKind.bits] at h
  omega
theorem i16_of {a : Int} (h : (Lit.int .i16 a).wf = true) : -32768 ≤ a ∧ a < 32768 := by
  simp [Lit.wf, IntKind.min, IntKind.max, IntKind.signed, IntKind.bits] at h
  omega
/-- A slice among the arguments that is not nil lies at a plain address. -/
theorem slice_spot {t e : TypeId} {a : Addr} {l c b0 : Nat} {r : Reach} (ht : P.underlying t = some (.slice e)) (h : Value.okWide P W r b0 t (.slice (some a) l c)) : a.spot = none := by
  unfold Value.okWide at h
  rw [ht] at h
  simp only [Cell.okWide, ht, Cell.ok] at h
  exact h.2.2.2.1
/-- A slice of integers among the arguments. -/
theorem arg_ints {t e : TypeId} {k : IntKind} {v : Value} {d : DataW H} {ps : List MemPlace} {r : Reach} {b0 : Nat} {sp : Nat → Bool} {hd : Bool} (ht : P.underlying t = some (.slice e)) (he : P.underlying e = some (.int k)) (hc : P.cellsOf e = 1)
    (hval : Value.okWide P W r b0 t v) (h : DataW.Trod enc P W 0 sp hd t v d ps) :
    ∃ bs : List Int, (∀ x ∈ bs, (Lit.int k x).wf = true) ∧ Rd W 1 v bs.length (bs.map (Value.int k)) ∧ (d = .nil ∧ bs = [] ∨ ∃ rest, d = .slice (lits k bs) (lits k rest)) := by
  obtain ⟨a, l, c, rfl⟩ := okWide_slice ht hval
  obtain ⟨fuel, hf⟩ := h
  rcases open_ints ht he hc hf with ⟨hcs, hx⟩ | ⟨x, l', c', zs, hcs, _, hl, hm, hz, hx, hcell, hwz⟩
  · simp [Value.cells] at hcs
    obtain ⟨rfl, rfl, rfl⟩ := hcs
    cases hx
    exact ⟨[], fun _ h => (by cases h), Rd.nil, .inl ⟨rfl, rfl⟩⟩
  · simp [Value.cells] at hcs
    obtain ⟨rfl, rfl, rfl⟩ := hcs
    cases hx
    have hlen : (zs.take l).length = l := by
      rw [List.length_take, hz]
      split <;> omega
    refine ⟨zs.take l, fun y hy => hwz y (List.mem_of_mem_take hy), ?_, .inr ⟨_, rfl⟩⟩
    rw [hlen]
    refine Rd.of_cells (slice_spot ht hval) (by rw [List.length_map, hlen]) hl (fun u hu => ?_) (fun j u hj => ?_)
    · obtain ⟨y, _, rfl⟩ := List.mem_map.1 hu
      rfl
    · rw [List.getElem?_map, Option.map_eq_some_iff] at hj
      obtain ⟨y, hy, rfl⟩ := hj
      have h2 := (List.getElem?_eq_some_iff.1 hy)
      obtain ⟨h3, h4⟩ := h2
      rw [List.length_take] at h3
      rw [hcell j (by omega)]
      congr 2
      rw [← h4, List.getElem_take, List.getD_eq_getElem?_getD, List.getElem?_eq_getElem (by omega)]
      rfl
/-- A slice of strings among the arguments. -/
theorem arg_strings {t e : TypeId} {v : Value} {d : DataW H} {ps : List MemPlace} {r : Reach} {b0 : Nat} {sp : Nat → Bool} {hd : Bool} (ht : P.underlying t = some (.slice e)) (he : P.underlying e = some .string) (hc : P.cellsOf e = 1)
    (hval : Value.okWide P W r b0 t v) (h : DataW.Trod enc P W 0 sp hd t v d ps) :
    ∃ bs : List ByteArray, (∀ x ∈ bs, x.size ≤ maxLen) ∧ Rd W 1 v bs.length (bs.map Value.string) ∧ (d = .nil ∧ bs = [] ∨ ∃ rest, d = .slice (strs bs) (strs rest)) := by
  obtain ⟨a, l, c, rfl⟩ := okWide_slice ht hval
  obtain ⟨fuel, hf⟩ := h
  rcases open_strings ht he hc hf with ⟨hcs, hx⟩ | ⟨x, l', c', zs, hcs, _, hl, hm, hz, hx, hcell, hwz⟩
  · simp [Value.cells] at hcs
    obtain ⟨rfl, rfl, rfl⟩ := hcs
    cases hx
    exact ⟨[], fun _ h => (by cases h), Rd.nil, .inl ⟨rfl, rfl⟩⟩
  · simp [Value.cells] at hcs
    obtain ⟨rfl, rfl, rfl⟩ := hcs
    cases hx
    have hlen : (zs.take l).length = l := by
      rw [List.length_take, hz]
      split <;> omega
    refine ⟨zs.take l, fun y hy => hwz y (List.mem_of_mem_take hy), ?_, .inr ⟨_, rfl⟩⟩
    rw [hlen]
    refine Rd.of_cells (slice_spot ht hval) (by rw [List.length_map, hlen]) hl (fun u hu => ?_) (fun j u hj => ?_)
    · obtain ⟨y, _, rfl⟩ := List.mem_map.1 hu
      rfl
    · rw [List.getElem?_map, Option.map_eq_some_iff] at hj
      obtain ⟨y, hy, rfl⟩ := hj
      obtain ⟨h3, h4⟩ := List.getElem?_eq_some_iff.1 hy
      rw [List.length_take] at h3
      rw [hcell j (by omega)]
      congr 2
      rw [← h4, List.getElem_take, List.getD_eq_getElem?_getD, List.getElem?_eq_getElem (by omega)]
      rfl
end Go.Proofs.YtiekoeapmhhjbaaGreatDoor.Sx
