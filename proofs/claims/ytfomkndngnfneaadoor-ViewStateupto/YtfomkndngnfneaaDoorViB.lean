/- ViewRefs, in plain words. -/
import Derived.Test.YtfomkndngnfneaaDoorViA
namespace Go.Proofs.YtfomkndngnfneaaDoor.Vi
open Go Go.Proofs Go.Proofs.YtfomkndngnfneaaDoor.Sx Go.Proofs.YtfomkndngnfneaaDoor.V1 Go.Proofs.YtfomkndngnfneaaDoor.V2
set_option linter.unusedVariables false
set_option linter.unusedSimpArgs false
theorem cut0 {α : Type} {xs : List α} {j : Int} (h : 0 ≤ j) (h' : j ≤ xs.length) : cutI xs 0 j = some (xs.take j.toNat) := by
  unfold cutI
  rw [if_pos (by omega)]
  simp
theorem cut_min {α : Type} (xs : List α) (n : Nat) : cutI xs 0 (min (xs.length : Int) (n : Int)) = some (xs.take n) := by
  rw [cut0 (by omega) (by omega)]
  congr 1
  rcases Nat.le_total xs.length n with h | h
  · rw [List.take_of_length_le (by omega), List.take_of_length_le h]
  · congr 1; omega
theorem set_len {l : List apiRef} {f : Int} (h : ∀ r ∈ l, RefOk r) (hf : In64 f) : (setF l f).length ≤ 100 + l.length * 100000100 := by
  unfold setF
  rw [List.length_append]
  have := head_len hf
  have := flat_len h
  omega
theorem itoa_pos {n : Int} : 1 ≤ (Lib.itoa n).length := by
  unfold Lib.itoa
  split
  · simp
  · rw [Lib.decDigits_length]
    exact Lib.nDigits_pos _
theorem viewRefs (p0 : List apiRef) (p1 : Int) (hp : ∀ r ∈ p0, RefOk r) (hf : In64 p1) : go_law20_ViewRefs p0 p1 = some true := by
  unfold go_law20_ViewRefs
  have c : cutI p0 0 (min (p0.length : Int) 30) = some (p0.take 30) := cut_min p0 30
  rw [awake, Option.bind_some, if_pos rfl, c, Option.bind_some]
  have hl : (p0.take 30).length ≤ 30 := by rw [List.length_take]; omega
  have hr : ∀ r ∈ p0.take 30, RefOk r := fun r h => hp r (List.mem_of_mem_take h)
  generalize p0.take 30 = l at hl hr
  rw [set_eq (fun r h => by cases h) hf (by simp), Option.bind_some]
  refine forL_or (fun j (s : Str) => s = setF (l.take j) p1) (fun r => r = some true) l 0 _ (by simp) ?_ ?_
  · rintro j a s nx _ ha rfl
    refine .inr ⟨setF (l.take (j + 1)) p1, ?_, rfl⟩
    rw [Nat.sub_zero] at ha
    obtain ⟨hj, haj⟩ := List.getElem?_eq_some_iff.1 ha
    have hra : RefOk a := hr a (by rw [← haj]; exact List.getElem_mem _)
    have ht : ∀ k, ∀ r ∈ l.take k, RefOk r := fun k r h => hr r (List.mem_of_mem_take h)
    have h1 := set_len (ht j) hf
    have h2 := ref_len hra
    have hlt : (l.take j).length ≤ 30 := by rw [List.length_take]; omega
    have hlt2 : (l.take (j + 1)).length ≤ 30 := by rw [List.length_take]; omega
    have e : setF (l.take (j + 1)) p1 = setF (l.take j) p1 ++ refF a := by
      unfold setF
      rw [List.take_add_one, ha]
      simp
    unfold go_law20_ViewRefs.b1
    have hw : wr ((j : Int) + 1) = ((j + 1 : Nat) : Int) := by rw [wr_in (by omega) (by omega)]; omega
    rw [ref_eq hra, Option.bind_some, catI_ok (by omega), Option.bind_some, hw, cut0 (by omega) (by omega), Option.bind_some, Int.toNat_natCast, set_eq (ht _) hf (by omega), Option.bind_some, if_pos e, e]
  · rintro s rfl
    congr 1
    rw [decide_eq_true_eq]
    unfold setF rowF
    have := itoa_pos (n := p1)
    simp [Lib.join_cons, Lib.joinTail]
    omega
end Go.Proofs.YtfomkndngnfneaaDoor.Vi
