/- EditsRead and EditsBytes, in plain words. -/
import Derived.Test.YtjlhookdigbjhaaEfC
namespace Go.Proofs.Ytjlhookdigbjhaa.Ef
open Go Go.Proofs Go.Proofs.Ytjlhookdigbjhaa.Sx Go.Proofs.Ytjlhookdigbjhaa.E1 Go.Proofs.Ytjlhookdigbjhaa.S1 Go.Proofs.Ytjlhookdigbjhaa.E2 Go.Proofs.Ytjlhookdigbjhaa.E3 Go.Proofs.Ytjlhookdigbjhaa.E4 Go.Proofs.Ytjlhookdigbjhaa.E5 Go.Proofs.Ytjlhookdigbjhaa.E6 Go.Proofs.Ytjlhookdigbjhaa.Ed
set_option linter.unusedVariables false
set_option linter.unusedSimpArgs false
theorem cut_min {α : Type} (xs : List α) (n : Nat) : cutI xs 0 (min (xs.length : Int) (n : Int)) = some (xs.take (min xs.length n)) := by
  rw [show min (xs.length : Int) (n : Int) = ((min xs.length n : Nat) : Int) by omega, show (0 : Int) = ((0 : Nat) : Int) from rfl, cutI_ok (by omega) (by omega)]
  rfl
theorem name_two (n : UInt8) : ∃ s, go_law10_name n = some s ∧ s.length = 2 := by
  have h : ((go_law10_name n).map List.length) = some 2 := by
    revert n
    refine each8 ?_
    decide +kernel
  cases hs : go_law10_name n with
  | none => rw [hs] at h; cases h
  | some s => rw [hs] at h; exact ⟨s, rfl, by simpa using h⟩
theorem edit_sz (p : law10Step) (hp : p.Any.Name.length ≤ 1048576) : ∃ e, go_law10_Step_Edit p = some e ∧ (editB e).length ≤ 2097152 := by
  unfold go_law10_Step_Edit
  have c1 : ∀ xs : List UInt8, cutI xs 0 (min (xs.length : Int) 4) = some (xs.take (min xs.length 4)) := fun xs => cut_min xs 4
  rw [c1, Option.bind_some]
  refine forL_or (fun (j : Nat) (l : List apiRef) => l.length ≤ j ∧ (l.flatMap refB).length ≤ 27 * j) (fun (r : Option editsEdit) => ∃ e, r = some e ∧ (editB e).length ≤ 2097152) _ _ _ ⟨Nat.le_refl _, Nat.le_refl _⟩ ?_ ?_
  · intro j a l nx _ hj ha ⟨hl, hm⟩
    refine .inr ?_
    have h4 : j < 4 := by simp at hj; omega
    obtain ⟨s, hs, hs2⟩ := name_two a
    unfold go_law10_Step_Edit.b1 go_law10_Step_Edit.j1
    rw [hs, Option.bind_some]
    split
    · rw [apB_ok (by simp; omega), Option.bind_some]
      exact ⟨_, rfl, by simp; omega, by rw [flat_app, refB_len]; simp only []; omega⟩
    · rw [apB_ok (by simp; omega), Option.bind_some]
      exact ⟨_, rfl, by simp; omega, by rw [flat_app, refB_len]; simp only []; omega⟩
  · intro l ⟨hl, hm⟩
    have hl4 : l.length ≤ 4 := by simp at hl; omega
    have hm4 : (l.flatMap refB).length ≤ 108 := by simp only [List.length_take] at hm; omega
    rw [c1, Option.bind_some]
    refine forL_or (fun (j : Nat) (l : List Str) => l.length ≤ j ∧ (l.flatMap textB).length ≤ 10 * j) (fun (r : Option editsEdit) => ∃ e, r = some e ∧ (editB e).length ≤ 2097152) _ _ _ ⟨Nat.le_refl _, Nat.le_refl _⟩ ?_ ?_
    · intro j a l nx _ hj ha ⟨hl, hm⟩
      refine .inr ?_
      have h4 : j < 4 := by simp at hj; omega
      obtain ⟨s, hs, hs2⟩ := name_two a
      unfold go_law10_Step_Edit.b2
      rw [hs, Option.bind_some, apB_ok (by simp; omega), Option.bind_some]
      exact ⟨_, rfl, by simp; omega, by rw [flat_app, textB_len]; omega⟩
    · intro l2 ⟨hl2, hm2⟩
      have hm5 : (l2.flatMap textB).length ≤ 40 := by simp only [List.length_take] at hm2; omega
      split
      · rw [apB_ok (by simp; omega), Option.bind_some]
        refine ⟨_, rfl, ?_⟩
        rw [editB_len]
        simp only []
        rw [flat_app, refB_len]
        omega
      · refine ⟨_, rfl, ?_⟩
        rw [editB_len]
        simp only []
        omega
theorem at_ok {α : Type} {xs : List α} {i : Nat} (h : i < xs.length) : atI xs (i : Int) = some xs[i] := by
  unfold atI
  rw [if_pos (by omega)]
  simp
theorem put_ok {α : Type} {xs : List α} {i : Nat} (x : α) (h : i < xs.length) : putI xs (i : Int) x = some (xs.set i x) := by
  unfold putI
  rw [if_pos (by omega)]
  simp
theorem forL_all {α R : Type} {body : Nat → α → Unit → (Unit → Option R) → Option R} {K : Unit → Option R} : ∀ (xs : List α) (i : Nat), (∀ j a nx, a ∈ xs → body j a () nx = nx ()) → forL body K i xs () = K ()
  | [], _, _ => rfl
  | x :: xs, i, h => by
    show body i x () (fun s' => forL body K (i + 1) xs s') = K ()
    rw [h i x _ (List.mem_cons_self ..)]
    exact forL_all xs (i + 1) (fun j a nx ha => h j a nx (List.mem_cons_of_mem _ ha))
/-- One text's turn in EditsRead. -/
theorem read_turn (b : List UInt8) (hb : b.length ≤ 4194304) (nx : Unit → Option Bool) (i : Nat) : go_law10_EditsRead.b2 i b () nx = nx () := by
  obtain ⟨e, ok, hr, h1, h2⟩ := read_told hb
  unfold go_law10_EditsRead.b2 go_law10_EditsRead.j1
  simp only []
  rw [hr, Option.bind_some]
  cases ok with
  | true =>
    have h3 := (h1 rfl).1
    have h4 : go_law10_bytes e = some b := by
      have : go_law10_bytes e = go_edits_Bytes e := by
        unfold go_law10_bytes go_edits_Bytes
        rfl
      rw [this, h3]
    simp [h4]
  | false =>
    have h3 := h2 rfl
    subst h3
    simp
theorem editsRead (p0 : List UInt8) (p1 : List law10Step) (p2 : UInt16) (p3 : UInt8) (h0 : p0.length ≤ 1048576) (h1 : ∀ x ∈ p1, x.Any.Name.length ≤ 1048576) : go_law10_EditsRead p0 p1 p2 p3 = some true := by
  unfold go_law10_EditsRead
  rw [awake, Option.bind_some, if_pos rfl]
  have c1 : cutI p1 0 (min (p1.length : Int) 20) = some (p1.take (min p1.length 20)) := cut_min p1 20
  rw [c1, Option.bind_some]
  refine forL_or (fun j (l : List (List UInt8)) => l.length ≤ 2 * j + 1 ∧ ∀ b ∈ l, b.length ≤ 4194304) (fun r => r = some true) _ _ _ ⟨by simp, fun b hb => by rw [List.mem_singleton] at hb; subst hb; omega⟩ ?_ ?_
  · intro j a l nx _ hj ha ⟨hl, hm⟩
    refine .inr ?_
    have h40 : j < 20 := by simp at hj; omega
    obtain ⟨e, he, hs⟩ := edit_sz a (h1 a (List.mem_of_mem_take ha))
    unfold go_law10_EditsRead.b1
    have hn : 24 ≤ (editB e).length := by rw [editB_len]; omega
    rw [he, Option.bind_some, bytes_ok (by omega), Option.bind_some, if_neg (by omega), apB_ok (by simp; omega), Option.bind_some]
    simp only [List.nil_append]
    obtain ⟨N, hN⟩ : ∃ N, N = editB e := ⟨_, rfl⟩
    rw [← hN] at hn hs ⊢
    have hz : nzI (N.length : Int) = some () := by unfold nzI; rw [if_neg (by omega)]
    have hmod : Int.tmod (p2.toNat : Int) (N.length : Int) = ((p2.toNat % N.length : Nat) : Int) := tmod_nat _ _
    have hlt : p2.toNat % N.length < N.length := Nat.mod_lt _ (by omega)
    rw [hz, Option.bind_some, hmod, at_ok hlt, Option.bind_some, put_ok _ hlt, Option.bind_some, Option.bind_some, show (0 : Int) = ((0 : Nat) : Int) from rfl, cutI_ok (by omega) (by omega), Option.bind_some, apB_ok (by simp; omega), Option.bind_some]
    refine ⟨_, rfl, by simp; omega, fun b hb => ?_⟩
    rcases List.mem_append.1 hb with hb | hb
    · exact hm b hb
    · simp only [List.mem_cons, List.not_mem_nil, or_false] at hb
      rcases hb with rfl | rfl
      · simp; omega
      · simp; omega
  · intro l ⟨hl, hm⟩
    exact forL_all l 0 (fun j a nx ha => read_turn a (hm a ha) nx j)
end Go.Proofs.Ytjlhookdigbjhaa.Ef
