/- The edits package's plain law, its third part: lists in order. -/
import Derived.Test.YtjlhookdigbjhaaEdB
namespace Go.Proofs.Ytjlhookdigbjhaa.Ed
open Go Go.Shelf Go.Sort Go.Proofs Go.Proofs.Ytjlhookdigbjhaa.Sx Go.Proofs.Ytjlhookdigbjhaa.E1 Go.Proofs.Ytjlhookdigbjhaa.S1 Go.Proofs.Ytjlhookdigbjhaa.E2 Go.Proofs.Ytjlhookdigbjhaa.E3
set_option linter.unusedVariables false
set_option linter.unusedSimpArgs false
/-- The names, one below the next. -/
def Up (l : List apiRef) : Prop := l.Pairwise fun a b => Lib.compareBytes a.Name b.Name < 0
def Diff (l : List apiRef) : Prop := l.Pairwise fun a b => a.Name ≠ b.Name
theorem cb_irr (a : Str) : ¬ Lib.compareBytes a a < 0 := by
  have := (cb_neg a a).2.2 rfl
  omega
theorem up_diff {l : List apiRef} (h : Up l) : Diff l := h.imp fun {a b} hab he => by
  rw [he] at hab
  exact cb_irr _ hab
theorem srt_sorted (l : List apiRef) : (srtR l).Pairwise fun a b => ¬ Lib.compareBytes b.Name a.Name < 0 := by
  obtain ⟨h1, _, _⟩ := (srt_ok l).1
  have h2 := (srt_ok l).2
  unfold srtR
  generalize pdq (ltOf cfR) l.toArray 0 l.toArray.size (Lib.bitLen l.toArray.size) true true = D at h1 h2 ⊢
  rw [List.pairwise_iff_getElem]
  intro i j hi hj hij
  rw [Array.length_toList] at hi hj
  have h3 := h2 i j (Nat.zero_le _) hij (by rw [← h1]; exact hj)
  rw [getElem!_pos D i hi, getElem!_pos D j hj, ltF] at h3
  simpa using h3
theorem diff_perm {l l' : List apiRef} (h : l.Perm l') (hd : Diff l) : Diff l' := (h.pairwise_iff (fun {a b} hab he => hab he.symm)).1 hd
theorem srt_up {l : List apiRef} (h : Diff l) : Up (srtR l) := by
  have h1 := srt_sorted l
  have h2 := diff_perm (srt_perm l).symm h
  refine (h1.and h2).imp fun {a b} hab => ?_
  have h3 := cb_neg a.Name b.Name
  have h4 := cb_neg b.Name a.Name
  by_cases e : Lib.compareBytes a.Name b.Name = 0
  · exact absurd (h3.2.1 e) hab.2
  · have : ¬ 0 < Lib.compareBytes a.Name b.Name := fun h => hab.1 (h4.1.2 h)
    omega
theorem up_unique : ∀ {l l' : List apiRef}, l.Perm l' → Up l → Up l' → l = l'
  | [], l', hp, _, _ => by
    have := hp.length_eq
    exact (List.eq_nil_of_length_eq_zero (by simpa using this.symm)).symm
  | a :: l, [], hp, _, _ => by
    have := hp.length_eq
    simp at this
  | a :: l, b :: l', hp, h1, h2 => by
    have p1 := List.pairwise_cons.1 h1
    have p2 := List.pairwise_cons.1 h2
    have e : a = b := by
      have ha : a ∈ b :: l' := hp.mem_iff.1 (List.mem_cons_self ..)
      have hb : b ∈ a :: l := hp.mem_iff.2 (List.mem_cons_self ..)
      rcases List.mem_cons.1 ha with h | ha
      · exact h
      · rcases List.mem_cons.1 hb with h | hb
        · exact h.symm
        · have q1 := p1.1 b hb
          have q2 := p2.1 a ha
          have := cb_trans _ _ _ q1 (Int.le_of_lt q2)
          exact absurd this (cb_irr _)
    subst e
    rw [up_unique (List.Perm.cons_inv hp) p1.2 p2.2]
theorem srt_id {l : List apiRef} (h : Up l) : srtR l = l := up_unique (srt_perm l) (srt_up (up_diff h)) h
theorem findF_neg {l : List apiRef} {n : Str} : findF l n = -1 ↔ ∀ a ∈ l, a.Name ≠ n := by
  unfold findF
  cases h : l.findIdx? (fun a => decide (a.Name = n)) with
  | none =>
    rw [List.findIdx?_eq_none_iff] at h
    simpa using h
  | some k =>
    obtain ⟨h1, h2, _⟩ := List.findIdx?_eq_some_iff_getElem.1 h
    constructor
    · intro h; exact absurd (show (k : Int) = -1 from h) (by omega)
    · intro h
      exact absurd (by simpa using h2) (h _ (List.getElem_mem h1))
theorem findF_sign (l : List apiRef) (n : Str) : findF l n = -1 ∨ 0 ≤ findF l n := by
  unfold findF
  cases l.findIdx? (fun a => decide (a.Name = n)) with
  | none => exact .inl rfl
  | some k => exact .inr (by simp)
theorem pairwise_del {l : List apiRef} {R : apiRef → apiRef → Prop} (h : l.Pairwise R) (k : Nat) : (l.take k ++ l.drop (k + 1)).Pairwise R := by
  rw [← List.eraseIdx_eq_take_drop_succ]
  exact h.sublist (List.eraseIdx_sublist _ _)
/-- A list in order: its names rise, each may be. -/
def Fine (s : editsSet) : Prop := Up s.Refs ∧ (∀ a ∈ s.Refs, go_edits_May a = some true) ∧ 0 ≤ s.Floor ∧ s.Floor ≤ 1048576
def Good2 (e : editsEdit) (M : Nat) (r : Option (editsSet × Int)) : Prop := ∃ t c, r = some (t, c) ∧ (c = 0 → Fine t ∧ t.Refs.length ≤ M)
theorem do_fine {s : editsSet} {e : editsEdit} (hs : Fine s) (h : s.Refs.length + e.Add.length ≤ 10000) : Good2 e (s.Refs.length + e.Add.length) (go_edits_Do s e) := by
  unfold go_edits_Do
  rw [clone_eq (by omega), Option.bind_some]
  unfold go_edits_Do.j1
  refine forL_or (fun (_ : Nat) (l : List apiRef) => l.length ≤ s.Refs.length ∧ Diff l ∧ ∀ a ∈ l, go_edits_May a = some true) (Good2 e (s.Refs.length + e.Add.length)) _ _ _ ⟨Nat.le_refl _, up_diff hs.1, hs.2.1⟩ ?_ ?_
  · intro j a l nx _ hj ha ⟨hl, hd, hm⟩
    unfold go_edits_Do.b1
    rw [find_eq, Option.bind_some]
    by_cases hk : findF l a < 0
    · rw [if_pos hk]
      exact .inl ⟨_, _, rfl, fun h => by cases h⟩
    · obtain ⟨k, e1, e2⟩ := findF_lt l a hk
      simp only [e1]
      rw [if_neg (by omega), delete_eq (by omega) e2, Option.bind_some]
      refine .inr ⟨_, rfl, by simp; omega, pairwise_del hd k, fun x hx => hm x ?_⟩
      rcases List.mem_append.1 hx with h | h
      · exact List.mem_of_mem_take h
      · exact List.mem_of_mem_drop h
  · intro l ⟨hl, hd, hm⟩
    refine forL_or (fun (j : Nat) (l : List apiRef) => l.length ≤ s.Refs.length + j ∧ Diff l ∧ ∀ a ∈ l, go_edits_May a = some true) (Good2 e (s.Refs.length + e.Add.length)) _ _ _ ⟨by omega, hd, hm⟩ ?_ ?_
    · intro j a l nx _ hj ha ⟨hl, hd, hm⟩
      unfold go_edits_Do.b2
      obtain ⟨b, hb⟩ := may_ok a
      rw [hb, Option.bind_some]
      cases b with
      | false => exact .inl ⟨_, _, rfl, fun h => by cases h⟩
      | true =>
        rw [if_pos rfl, find_eq, Option.bind_some]
        by_cases hk : 0 ≤ findF l a.Name
        · rw [if_pos hk]
          exact .inl ⟨_, _, rfl, fun h => by cases h⟩
        · rw [if_neg hk, apB_ok (by simp; omega), Option.bind_some]
          have hn := findF_neg.1 ((findF_sign l a.Name).resolve_right hk)
          refine .inr ⟨_, rfl, by simp; omega, ?_, fun x hx => ?_⟩
          · refine List.pairwise_append.2 ⟨hd, List.pairwise_singleton _ _, fun x hx y hy => ?_⟩
            rw [List.mem_singleton] at hy
            subst hy
            exact hn x hx
          · rcases List.mem_append.1 hx with h | h
            · exact hm x h
            · rw [List.mem_singleton] at h
              subst h
              exact hb
    · intro l ⟨hl, hd, hm⟩
      by_cases h1 : e.Floor < s.Floor
      · rw [if_pos h1]
        exact ⟨_, _, rfl, fun h => by cases h⟩
      · by_cases h2 : 1048576 < e.Floor
        · rw [if_neg h1, if_pos h2]
          exact ⟨_, _, rfl, fun h => by cases h⟩
        · rw [if_neg h1, if_neg h2, srt_eq (by omega), Option.bind_some]
          refine ⟨_, _, rfl, fun _ => ⟨⟨srt_up hd, fun a ha => hm a ((srt_perm l).mem_iff.1 ha), ?_, ?_⟩, by rw [srt_len]; omega⟩⟩
          · have := hs.2.2.1; show 0 ≤ e.Floor; omega
          · show e.Floor ≤ 1048576; omega
end Go.Proofs.Ytjlhookdigbjhaa.Ed
