/- The edits package's plain law, its second part: the document's examples, EditsMay, EditsFloor. -/
import Derived.Test.YtjlhookdigbjhaaEdA
namespace Go.Proofs.Ytjlhookdigbjhaa.Ed
open Go Go.Shelf Go.Sort Go.Proofs Go.Proofs.Ytjlhookdigbjhaa.Sx Go.Proofs.Ytjlhookdigbjhaa.E1 Go.Proofs.Ytjlhookdigbjhaa.S1 Go.Proofs.Ytjlhookdigbjhaa.E2 Go.Proofs.Ytjlhookdigbjhaa.E3
set_option linter.unusedVariables false
set_option linter.unusedSimpArgs false
theorem srt_perm (l : List apiRef) : (srtR l).Perm l := by
  obtain ⟨h1, _, h3⟩ := (srt_ok l).1
  unfold srtR
  generalize pdq (ltOf cfR) l.toArray 0 l.toArray.size (Lib.bitLen l.toArray.size) true true = D at h1 h3 ⊢
  rw [show D.extract 0 l.toArray.size = D by rw [← h1]; simp] at h3
  simpa using h3
theorem srt_one (r : apiRef) : srtR [r] = [r] := List.perm_singleton.1 (srt_perm [r])
def r0 : apiRef := ⟨[97], 2, 1, 2⟩
theorem aw1 : go_edits_Do ⟨[], 0⟩ ⟨[r0], [], 1⟩ = some (⟨[r0], 1⟩, 0) := by
  have h : go_edits_Do ⟨[], 0⟩ ⟨[r0], [], 1⟩ = (go_sortRef [r0]).bind fun y => some (⟨y, 1⟩, 0) := by kernel_rfl
  rw [h, srt_eq (by simp), srt_one]
  rfl
theorem aw2 : go_edits_Do ⟨[r0], 1⟩ ⟨[r0], [], 1⟩ = some (⟨[], 0⟩, 5) := by kernel_rfl
theorem aw3 : go_edits_Do ⟨[r0], 1⟩ ⟨[r0], [[97]], 2⟩ = some (⟨[r0], 2⟩, 0) := by
  have h : go_edits_Do ⟨[r0], 1⟩ ⟨[r0], [[97]], 2⟩ = (go_sortRef [r0]).bind fun y => some (⟨y, 2⟩, 0) := by kernel_rfl
  rw [h, srt_eq (by simp), srt_one]
  rfl
theorem awake : go_law10_awake = some true := by
  unfold go_law10_awake
  have e : (⟨[97], 2, 1, 2⟩ : apiRef) = r0 := rfl
  rw [e, aw1, Option.bind_some]
  simp only []
  rw [aw2, Option.bind_some, aw3, Option.bind_some]
  rfl
theorem each8 {p : UInt8 → Prop} (h : ∀ i : Fin 256, p (UInt8.ofNat i.val)) (n : UInt8) : p n := by
  have := h ⟨n.toNat, UInt8.toNat_lt n⟩
  simpa using this
theorem may_step (n : UInt8) : ((go_law10_Step_Edit ⟨[n], [], 0, false, ⟨[], 0, 0, 0⟩⟩).bind fun y10 => (atI y10.Add 0).bind fun y15 => (go_edits_May y15).bind fun y29 => if y29 then (go_law10_may y15).bind fun y31 => some y31 else some false) = some true := by
  revert n
  refine each8 ?_
  decide +kernel
theorem editsMay (p0 : apiRef) (p1 : UInt8) : go_law10_EditsMay p0 p1 = some true := by
  unfold go_law10_EditsMay
  rw [awake, Option.bind_some, if_pos rfl]
  have h := may_step p1
  cases h1 : go_law10_Step_Edit ⟨[p1], [], 0, false, ⟨[], 0, 0, 0⟩⟩ with
  | none => rw [h1] at h; cases h
  | some e =>
    rw [h1] at h
    rw [Option.bind_some] at h ⊢
    cases h2 : atI e.Add 0 with
    | none => rw [h2] at h; cases h
    | some x =>
      rw [h2] at h
      rw [Option.bind_some] at h ⊢
      obtain ⟨b, hb⟩ := may_ok p0
      rw [← may_eq, hb, Option.bind_some, Option.bind_some, if_pos rfl]
      exact h
theorem name_ok (n : UInt8) : ∃ s, go_law10_name n = some s := by
  have h : (go_law10_name n).isSome = true := by
    revert n
    refine each8 ?_
    decide +kernel
  exact Option.isSome_iff_exists.1 h
theorem edit_ok (p : law10Step) : ∃ e, go_law10_Step_Edit p = some e ∧ e.Add.length ≤ 5 := by
  unfold go_law10_Step_Edit
  have c1 : ∀ xs : List UInt8, cutI xs 0 (min (xs.length : Int) 4) = some (xs.take (min xs.length 4)) := fun xs => by
    rw [show min (xs.length : Int) 4 = ((min xs.length 4 : Nat) : Int) by omega, show (0 : Int) = ((0 : Nat) : Int) from rfl, cutI_ok (by omega) (by omega)]
    rfl
  rw [c1, Option.bind_some]
  refine forL_or (fun (j : Nat) (l : List apiRef) => l.length ≤ j) (fun (r : Option editsEdit) => ∃ e, r = some e ∧ e.Add.length ≤ 5) _ _ _ (Nat.le_refl _) ?_ ?_
  · intro j a l nx _ hj ha hl
    refine .inr ?_
    have h4 : j < 4 := by simp at hj; omega
    obtain ⟨s, hs⟩ := name_ok a
    unfold go_law10_Step_Edit.b1 go_law10_Step_Edit.j1
    rw [hs, Option.bind_some]
    split
    · rw [apB_ok (by simp; omega), Option.bind_some]
      exact ⟨_, rfl, by simp; omega⟩
    · rw [apB_ok (by simp; omega), Option.bind_some]
      exact ⟨_, rfl, by simp; omega⟩
  · intro l hl
    have hl4 : l.length ≤ 4 := by simp at hl; omega
    rw [c1, Option.bind_some]
    refine forL_or (fun (j : Nat) (l : List Str) => l.length ≤ j) (fun (r : Option editsEdit) => ∃ e, r = some e ∧ e.Add.length ≤ 5) _ _ _ (Nat.le_refl _) ?_ ?_
    · intro j a l nx _ hj ha hl
      refine .inr ?_
      have h4 : j < 4 := by simp at hj; omega
      obtain ⟨s, hs⟩ := name_ok a
      unfold go_law10_Step_Edit.b2
      rw [hs, Option.bind_some, apB_ok (by simp; omega), Option.bind_some]
      exact ⟨_, rfl, by simp; omega⟩
    · intro l2 hl2
      split
      · rw [apB_ok (by simp; omega), Option.bind_some]
        exact ⟨_, rfl, by simp; omega⟩
      · exact ⟨_, rfl, by simp; omega⟩
theorem editsFloor (p0 : List law10Step) (p1 : UInt8) : go_law10_EditsFloor p0 p1 = some true := by
  unfold go_law10_EditsFloor
  rw [awake, Option.bind_some, if_pos rfl]
  rw [show min (p0.length : Int) 40 = ((min p0.length 40 : Nat) : Int) by omega, show (0 : Int) = ((0 : Nat) : Int) from rfl, cutI_ok (by omega) (by omega), Option.bind_some]
  refine forL_or (fun j s => s.1.length ≤ 5 * j) (fun r => r = some true) _ _ _ (Nat.le_refl _) ?_ ?_
  · intro j a ⟨l, x⟩ nx _ hj ha hl
    refine .inr ?_
    have h40 : j < 40 := by simp at hj; omega
    simp only at hl
    obtain ⟨e, he, hel⟩ := edit_ok a
    obtain ⟨t, c, ht, hc⟩ := do_good (s := ⟨l, x⟩) (e := e) (by simp only; omega)
    unfold go_law10_EditsFloor.b1
    simp only []
    rw [he, Option.bind_some, ht, Option.bind_some]
    unfold go_law10_EditsFloor.j1 go_law10_EditsFloor.j2
    by_cases h0 : c = 0
    · obtain ⟨h1, h2, h3⟩ := hc h0
      have h2' : x ≤ e.Floor := h2
      have h3' : t.Refs.length ≤ l.length + e.Add.length := h3
      have hx : ¬ t.Floor < x := by rw [h1]; omega
      rw [if_pos h0, decide_eq_false hx, if_neg (by simp), if_pos h0]
      exact ⟨(t.Refs, t.Floor), rfl, by show t.Refs.length ≤ 5 * (j + 1); omega⟩
    · rw [if_neg h0, if_neg (by simp), if_neg h0]
      exact ⟨(l, x), rfl, by show l.length ≤ 5 * (j + 1); omega⟩
  · intro ⟨l, x⟩ hl
    have hl2 : l.length ≤ 200 := by simp at hl; omega
    have hp : p1.toNat < 256 := UInt8.toNat_lt p1
    show ((go_edits_Do (⟨l, x⟩ : editsSet) (⟨[], [], (p1.toNat : Int)⟩ : editsEdit)).bind _) = some true
    rw [do_empty (by simp only; omega), Option.bind_some]
    by_cases h1 : (p1.toNat : Int) < x
    · rw [if_pos h1]
      have h2 : ¬ x ≤ (p1.toNat : Int) := by omega
      simp [h2]
    · rw [if_neg h1, if_neg (show ¬ (1048576 : Int) < (p1.toNat : Int) by omega)]
      have h2 : x ≤ (p1.toNat : Int) := by omega
      simp [h2, srt_len]
end Go.Proofs.Ytjlhookdigbjhaa.Ed
