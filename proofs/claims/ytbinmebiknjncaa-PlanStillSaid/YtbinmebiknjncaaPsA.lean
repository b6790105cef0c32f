/- The edits package's plain law at the plan's seat: what the sort does, and what is found and deleted. -/
import Derived.Sort.AssemblyPlain
import Derived.Test.YtbinmebiknjncaaPlC
import Derived.Test.YtbinmebiknjncaaQ2
namespace Go.Proofs.Ytbinmebiknjncaa.Ps
open Go Go.Shelf Go.Sort Go.Proofs Go.Proofs.Ytbinmebiknjncaa.Sx Go.Proofs.Ytbinmebiknjncaa.P1 Go.Proofs.Ytbinmebiknjncaa.P2 Go.Proofs.Ytbinmebiknjncaa.P3 Go.Proofs.Ytbinmebiknjncaa.Q1 Go.Proofs.Ytbinmebiknjncaa.S1 Go.Proofs.Ytbinmebiknjncaa.Q2
open Go.Proofs.Ytbinmebiknjncaa.Pl (wr_id apB_ok cutI_ok)
set_option linter.unusedVariables false
set_option linter.unusedSimpArgs false
/-- The sort's answer. -/
def srtR (l : List apiRef) : List apiRef := (pdq (ltOf cfR) l.toArray 0 l.toArray.size (Lib.bitLen l.toArray.size) true true).toList
theorem srt_eq {l : List apiRef} (h : l.length ≤ 100000) : go_sortRef l = some (srtR l) := by
  unfold go_sortRef
  rw [if_pos (by omega)]
  rfl
theorem srt_ok (l : List apiRef) : PermIn 0 l.toArray.size l.toArray (pdq (ltOf cfR) l.toArray 0 l.toArray.size (Lib.bitLen l.toArray.size) true true) ∧ SortedIn (ltOf cfR) 0 l.toArray.size (pdq (ltOf cfR) l.toArray 0 l.toArray.size (Lib.bitLen l.toArray.size) true true) :=
  pdq_sorts (ltOf cfR) swoR l.toArray 0 l.toArray.size (Lib.bitLen l.toArray.size) true true (Nat.zero_le _) (Nat.le_refl _) (Or.inl rfl)
theorem srt_len (l : List apiRef) : (srtR l).length = l.length := by
  unfold srtR
  rw [Array.length_toList, (srt_ok l).1.1]
  simp
theorem clone_eq {l : List apiRef} (h : l.length ≤ 100000) : go_slices_Clone_api_Ref_api_Ref l = some l := by
  unfold go_slices_Clone_api_Ref_api_Ref
  rw [apB_ok (by simp; omega)]
  rfl
theorem find_loop (n : Str) : ∀ (l : List apiRef) (i : Nat), forL (go_slices_IndexFunc_api_Ref_api_Ref_edits_Find_c1.b1 n) (fun _ => some (-1)) i l () = some (match l.findIdx? (fun a => decide (a.Name = n)) with
    | none => -1
    | some k => ((i + k : Nat) : Int))
  | [], i => rfl
  | x :: xs, i => by
    have ih := find_loop n xs (i + 1)
    show go_slices_IndexFunc_api_Ref_api_Ref_edits_Find_c1.b1 n i x () (fun s' => forL (go_slices_IndexFunc_api_Ref_api_Ref_edits_Find_c1.b1 n) (fun _ => some (-1)) (i + 1) xs s') = _
    generalize hT : (fun s' : Unit => forL (go_slices_IndexFunc_api_Ref_api_Ref_edits_Find_c1.b1 n) (fun _ => some (-1)) (i + 1) xs s') = T
    have ih' := (congrFun hT ()).symm.trans ih
    unfold go_slices_IndexFunc_api_Ref_api_Ref_edits_Find_c1.b1 go_edits_Find_c1
    rw [Option.bind_some, List.findIdx?_cons]
    by_cases h : x.Name = n
    · simp [h]
    · simp only [h, decide_false, Bool.false_eq_true, if_false]
      rw [ih']
      cases xs.findIdx? (fun a => decide (a.Name = n)) with
      | none => rfl
      | some k => simp only [Option.map_some]; congr 2; omega
def findF (l : List apiRef) (n : Str) : Int := match l.findIdx? (fun a => decide (a.Name = n)) with
  | none => -1
  | some k => (k : Int)
theorem find_eq (s : editsSet) (n : Str) : go_edits_Find s n = some (findF s.Refs n) := by
  unfold go_edits_Find go_slices_IndexFunc_api_Ref_api_Ref_edits_Find_c1
  rw [find_loop, Option.bind_some]
  unfold findF
  cases s.Refs.findIdx? (fun a => decide (a.Name = n)) with
  | none => rfl
  | some k => simp
theorem findF_lt (l : List apiRef) (n : Str) (h : ¬ findF l n < 0) : ∃ k : Nat, findF l n = (k : Int) ∧ k < l.length := by
  unfold findF at *
  cases hk : l.findIdx? (fun a => decide (a.Name = n)) with
  | none => rw [hk] at h; simp at h
  | some k => exact ⟨k, rfl, (List.findIdx?_eq_some_iff_getElem.1 hk).1⟩
theorem delete_eq {l : List apiRef} (hl : l.length ≤ 100000) {k : Nat} (h : k < l.length) : go_slices_Delete_api_Ref_api_Ref l (k : Int) (wr ((k : Int) + 1)) = some (l.take k ++ l.drop (k + 1)) := by
  have hw : wr ((k : Int) + 1) = ((k + 1 : Nat) : Int) := by rw [wr_id (by omega) (by omega)]; omega
  unfold go_slices_Delete_api_Ref_api_Ref cap3
  rw [hw, cutI_ok (by omega) (by omega), Option.bind_some, if_pos (by omega), Option.bind_some, if_neg (by omega)]
  rw [show (0 : Int) = ((0 : Nat) : Int) from rfl, cutI_ok (by omega) (by omega), Option.bind_some, cutI_ok (by omega) (by omega), Option.bind_some, apB_ok (by simp; omega), Option.bind_some]
  simp
theorem srt_perm (l : List apiRef) : (srtR l).Perm l := by
  obtain ⟨h1, _, h3⟩ := (srt_ok l).1
  unfold srtR
  generalize pdq (ltOf cfR) l.toArray 0 l.toArray.size (Lib.bitLen l.toArray.size) true true = D at h1 h3 ⊢
  rw [show D.extract 0 l.toArray.size = D by rw [← h1]; simp] at h3
  simpa using h3
/-- The names, one below the next. -/
def Up (l : List apiRef) : Prop := l.Pairwise fun a b => Lib.compareBytes a.Name b.Name < 0
def Diff (l : List apiRef) : Prop := l.Pairwise fun a b => a.Name ≠ b.Name
theorem cb_irr (a : Str) : ¬ Lib.compareBytes a a < 0 := by
  have := (cb_neg a a).2.2 rfl
  omega
theorem up_diff {l : List apiRef} (h : Up l) : Diff l := h.imp fun {a b} hab he => by
  rw [he] at hab
  exact cb_irr _ hab
theorem srt_sorted (l : List apiRef) : (srtR l).Pairwise fun a b => ¬ Lib.compareBytes b.Name a.Name < 0 := by
  obtain ⟨h1, _, _⟩ := (srt_ok l).1
  have h2 := (srt_ok l).2
  unfold srtR
  generalize pdq (ltOf cfR) l.toArray 0 l.toArray.size (Lib.bitLen l.toArray.size) true true = D at h1 h2 ⊢
  rw [List.pairwise_iff_getElem]
  intro i j hi hj hij
  rw [Array.length_toList] at hi hj
  have h3 := h2 i j (Nat.zero_le _) hij (by rw [← h1]; exact hj)
  rw [getElem!_pos D i hi, getElem!_pos D j hj, ltF] at h3
  simpa using h3
theorem diff_perm {l l' : List apiRef} (h : l.Perm l') (hd : Diff l) : Diff l' := (h.pairwise_iff (fun {a b} hab he => hab he.symm)).1 hd
theorem srt_up {l : List apiRef} (h : Diff l) : Up (srtR l) := by
  have h1 := srt_sorted l
  have h2 := diff_perm (srt_perm l).symm h
  refine (h1.and h2).imp fun {a b} hab => ?_
  have h3 := cb_neg a.Name b.Name
  have h4 := cb_neg b.Name a.Name
  by_cases e : Lib.compareBytes a.Name b.Name = 0
  · exact absurd (h3.2.1 e) hab.2
  · have : ¬ 0 < Lib.compareBytes a.Name b.Name := fun h => hab.1 (h4.1.2 h)
    omega
theorem up_unique : ∀ {l l' : List apiRef}, l.Perm l' → Up l → Up l' → l = l'
  | [], l', hp, _, _ => by
    have := hp.length_eq
    exact (List.eq_nil_of_length_eq_zero (by simpa using this.symm)).symm
  | a :: l, [], hp, _, _ => by
    have := hp.length_eq
    simp at this
  | a :: l, b :: l', hp, h1, h2 => by
    have p1 := List.pairwise_cons.1 h1
    have p2 := List.pairwise_cons.1 h2
    have e : a = b := by
      have ha : a ∈ b :: l' := hp.mem_iff.1 (List.mem_cons_self ..)
      have hb : b ∈ a :: l := hp.mem_iff.2 (List.mem_cons_self ..)
      rcases List.mem_cons.1 ha with h | ha
      · exact h
      · rcases List.mem_cons.1 hb with h | hb
        · exact h.symm
        · have q1 := p1.1 b hb
          have q2 := p2.1 a ha
          have := cb_trans _ _ _ q1 (Int.le_of_lt q2)
          exact absurd this (cb_irr _)
    subst e
    rw [up_unique (List.Perm.cons_inv hp) p1.2 p2.2]
theorem srt_id {l : List apiRef} (h : Up l) : srtR l = l := up_unique (srt_perm l) (srt_up (up_diff h)) h
theorem findF_neg {l : List apiRef} {n : Str} : findF l n = -1 ↔ ∀ a ∈ l, a.Name ≠ n := by
  unfold findF
  cases h : l.findIdx? (fun a => decide (a.Name = n)) with
  | none =>
    rw [List.findIdx?_eq_none_iff] at h
    simpa using h
  | some k =>
    obtain ⟨h1, h2, _⟩ := List.findIdx?_eq_some_iff_getElem.1 h
    constructor
    · intro h; exact absurd (show (k : Int) = -1 from h) (by omega)
    · intro h
      exact absurd (by simpa using h2) (h _ (List.getElem_mem h1))
theorem findF_sign (l : List apiRef) (n : Str) : findF l n = -1 ∨ 0 ≤ findF l n := by
  unfold findF
  cases l.findIdx? (fun a => decide (a.Name = n)) with
  | none => exact .inl rfl
  | some k => exact .inr (by simp)
theorem pairwise_del {l : List apiRef} {R : apiRef → apiRef → Prop} (h : l.Pairwise R) (k : Nat) : (l.take k ++ l.drop (k + 1)).Pairwise R := by
  rw [← List.eraseIdx_eq_take_drop_succ]
  exact h.sublist (List.eraseIdx_sublist _ _)
end Go.Proofs.Ytbinmebiknjncaa.Ps
