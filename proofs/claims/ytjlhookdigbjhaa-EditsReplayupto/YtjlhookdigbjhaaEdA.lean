/- The edits package's plain law, its first part: what edits.Do does to a list's length and floor. -/
import Derived.Sort.AssemblyPlain
import Derived.Test.YtjlhookdigbjhaaE3
namespace Go.Proofs.Ytjlhookdigbjhaa.Ed
open Go Go.Shelf Go.Sort Go.Proofs Go.Proofs.Ytjlhookdigbjhaa.Sx Go.Proofs.Ytjlhookdigbjhaa.E1 Go.Proofs.Ytjlhookdigbjhaa.S1 Go.Proofs.Ytjlhookdigbjhaa.E2 Go.Proofs.Ytjlhookdigbjhaa.E3
set_option linter.unusedVariables false
set_option linter.unusedSimpArgs false
theorem wr_id {x : Int} (h : -1000000 ≤ x) (h' : x ≤ 1000000) : wr x = x := by
  simp only [wr, IntKind.wrap, IntKind.bits, IntKind.signed, Bool.true_and, decide_eq_true_eq, show (2 : Int) ^ 64 = 18446744073709551616 from rfl, show (2 : Int) ^ (64 - 1) = 9223372036854775808 from rfl]
  split <;> omega
theorem apB_ok {α : Type} {b : Nat} {xs ys : List α} (h : (xs.length + ys.length) * b ≤ 140737488355328) : apB b xs ys = some (xs ++ ys) := by
  unfold apB
  rw [if_pos h]
theorem cutI_ok {α : Type} {xs : List α} {i j : Nat} (h : i ≤ j) (h' : j ≤ xs.length) : cutI xs (i : Int) (j : Int) = some ((xs.take j).drop i) := by
  unfold cutI
  rw [if_pos (by omega)]
  simp
theorem md {x n : UInt8} (h : 0 < n.toNat) : (x % n).toNat < n.toNat := by rw [UInt8.toNat_mod]; exact Nat.mod_lt _ h
/-- A loop that leaves with what is good, or goes on. -/
theorem forL_or {α S R : Type} {body : Nat → α → S → (S → Option R) → Option R} {k : S → Option R} (I : Nat → S → Prop) (Q : Option R → Prop) : ∀ (xs : List α) (i : Nat) (s : S), I i s →
    (∀ (j : Nat) (a : α) (s : S) (nx : S → Option R), i ≤ j → j < i + xs.length → a ∈ xs → I j s → Q (body j a s nx) ∨ ∃ s', body j a s nx = nx s' ∧ I (j + 1) s') → (∀ s, I (i + xs.length) s → Q (k s)) → Q (forL body k i xs s)
  | [], i, s, h, _, hk => hk s h
  | x :: xs, i, s, h, hb, hk => by
    show Q (body i x s (fun s' => forL body k (i + 1) xs s'))
    rcases hb i x s (fun s' => forL body k (i + 1) xs s') (Nat.le_refl _) (by simp) (List.mem_cons_self ..) h with h1 | ⟨s', h1, h2⟩
    · exact h1
    · rw [h1]
      exact forL_or I Q xs (i + 1) s' h2 (fun j a s nx hj hj' ha hs => hb j a s nx (by omega) (by simp; omega) (List.mem_cons_of_mem _ ha) hs) (fun s hs => hk s (by rw [List.length_cons, show i + (xs.length + 1) = i + 1 + xs.length by omega]; exact hs))
/-- The sort's answer. -/
def srtR (l : List apiRef) : List apiRef := (pdq (ltOf cfR) l.toArray 0 l.toArray.size (Lib.bitLen l.toArray.size) true true).toList
theorem srt_eq {l : List apiRef} (h : l.length ≤ 100000) : go_sortRef l = some (srtR l) := by
  unfold go_sortRef
  rw [if_pos (by omega)]
  rfl
theorem srt_ok (l : List apiRef) : PermIn 0 l.toArray.size l.toArray (pdq (ltOf cfR) l.toArray 0 l.toArray.size (Lib.bitLen l.toArray.size) true true) ∧ SortedIn (ltOf cfR) 0 l.toArray.size (pdq (ltOf cfR) l.toArray 0 l.toArray.size (Lib.bitLen l.toArray.size) true true) :=
  pdq_sorts (ltOf cfR) swoR l.toArray 0 l.toArray.size (Lib.bitLen l.toArray.size) true true (Nat.zero_le _) (Nat.le_refl _) (Or.inl rfl)
theorem srt_len (l : List apiRef) : (srtR l).length = l.length := by
  unfold srtR
  rw [Array.length_toList, (srt_ok l).1.1]
  simp
theorem clone_eq {l : List apiRef} (h : l.length ≤ 100000) : go_slices_Clone_api_Ref_api_Ref l = some l := by
  unfold go_slices_Clone_api_Ref_api_Ref
  rw [apB_ok (by simp; omega)]
  rfl
theorem find_loop (n : Str) : ∀ (l : List apiRef) (i : Nat), forL (go_slices_IndexFunc_api_Ref_api_Ref_edits_Find_c1.b1 n) (fun _ => some (-1)) i l () = some (match l.findIdx? (fun a => decide (a.Name = n)) with
    | none => -1
    | some k => ((i + k : Nat) : Int))
  | [], i => rfl
  | x :: xs, i => by
    have ih := find_loop n xs (i + 1)
    show go_slices_IndexFunc_api_Ref_api_Ref_edits_Find_c1.b1 n i x () (fun s' => forL (go_slices_IndexFunc_api_Ref_api_Ref_edits_Find_c1.b1 n) (fun _ => some (-1)) (i + 1) xs s') = _
    generalize hT : (fun s' : Unit => forL (go_slices_IndexFunc_api_Ref_api_Ref_edits_Find_c1.b1 n) (fun _ => some (-1)) (i + 1) xs s') = T
    have ih' := (congrFun hT ()).symm.trans ih
    unfold go_slices_IndexFunc_api_Ref_api_Ref_edits_Find_c1.b1 go_edits_Find_c1
    rw [Option.bind_some, List.findIdx?_cons]
    by_cases h : x.Name = n
    · simp [h]
    · simp only [h, decide_false, Bool.false_eq_true, if_false]
      rw [ih']
      cases xs.findIdx? (fun a => decide (a.Name = n)) with
      | none => rfl
      | some k => simp only [Option.map_some]; congr 2; omega
def findF (l : List apiRef) (n : Str) : Int := match l.findIdx? (fun a => decide (a.Name = n)) with
  | none => -1
  | some k => (k : Int)
theorem find_eq (s : editsSet) (n : Str) : go_edits_Find s n = some (findF s.Refs n) := by
  unfold go_edits_Find go_slices_IndexFunc_api_Ref_api_Ref_edits_Find_c1
  rw [find_loop, Option.bind_some]
  unfold findF
  cases s.Refs.findIdx? (fun a => decide (a.Name = n)) with
  | none => rfl
  | some k => simp
theorem findF_lt (l : List apiRef) (n : Str) (h : ¬ findF l n < 0) : ∃ k : Nat, findF l n = (k : Int) ∧ k < l.length := by
  unfold findF at *
  cases hk : l.findIdx? (fun a => decide (a.Name = n)) with
  | none => rw [hk] at h; simp at h
  | some k => exact ⟨k, rfl, (List.findIdx?_eq_some_iff_getElem.1 hk).1⟩
theorem delete_eq {l : List apiRef} (hl : l.length ≤ 100000) {k : Nat} (h : k < l.length) : go_slices_Delete_api_Ref_api_Ref l (k : Int) (wr ((k : Int) + 1)) = some (l.take k ++ l.drop (k + 1)) := by
  have hw : wr ((k : Int) + 1) = ((k + 1 : Nat) : Int) := by rw [wr_id (by omega) (by omega)]; omega
  unfold go_slices_Delete_api_Ref_api_Ref cap3
  rw [hw, cutI_ok (by omega) (by omega), Option.bind_some, if_pos (by omega), Option.bind_some, if_neg (by omega)]
  rw [show (0 : Int) = ((0 : Nat) : Int) from rfl, cutI_ok (by omega) (by omega), Option.bind_some, cutI_ok (by omega) (by omega), Option.bind_some, apB_ok (by simp; omega), Option.bind_some]
  simp
theorem may_ok (r : apiRef) : ∃ b, go_edits_May r = some b := by
  unfold go_edits_May
  repeat' split
  all_goals exact ⟨_, rfl⟩
theorem may_eq (r : apiRef) : go_edits_May r = go_law10_may r := by
  unfold go_edits_May go_law10_may
  by_cases h0 : r.Name = []
  · simp [h0]
  · have h1 : 0 < (r.Name.length : Int) := by have := List.length_pos_iff.2 h0; omega
    rw [if_neg h0, if_pos h1]
    by_cases h2 : (r.Name.length : Int) ≤ 16
    · rw [if_pos h2, if_pos (show (r.Name.length : Int) < 17 by omega)]
      by_cases h8 : r.Kind = 0
      · have h9 : ¬ 0 < r.Kind := by omega
        simp [h8]
      · by_cases h9 : 0 < r.Kind
        · simp only [h8, h9, if_true, if_false]
        · have h10 : ¬ 0 ≤ r.Kind := by omega
          simp only [h10, if_false]
    · rw [if_neg h2, if_neg (show ¬ (r.Name.length : Int) < 17 by omega)]
/-- What edits.Do answers: a code, and, if it is none, the floor asked for, not below the last. -/
def Good (s : editsSet) (e : editsEdit) (r : Option (editsSet × Int)) : Prop := ∃ t c, r = some (t, c) ∧ (c = 0 → t.Floor = e.Floor ∧ s.Floor ≤ e.Floor ∧ t.Refs.length ≤ s.Refs.length + e.Add.length)
theorem do_good {s : editsSet} {e : editsEdit} (h : s.Refs.length + e.Add.length ≤ 10000) : Good s e (go_edits_Do s e) := by
  unfold go_edits_Do
  rw [clone_eq (by omega), Option.bind_some]
  unfold go_edits_Do.j1
  refine forL_or (fun _ l => l.length ≤ s.Refs.length) (Good s e) _ _ _ (Nat.le_refl _) ?_ ?_
  · intro j a l nx _ hj ha hl
    unfold go_edits_Do.b1
    rw [find_eq, Option.bind_some]
    by_cases hk : findF l a < 0
    · rw [if_pos hk]
      exact .inl ⟨_, _, rfl, fun h => by cases h⟩
    · obtain ⟨k, e1, e2⟩ := findF_lt l a hk
      simp only [e1]
      rw [if_neg (by omega), delete_eq (by omega) e2, Option.bind_some]
      exact .inr ⟨_, rfl, by simp; omega⟩
  · intro l hl
    refine forL_or (fun j l => l.length ≤ s.Refs.length + j) (Good s e) _ _ _ (by omega) ?_ ?_
    · intro j a l nx _ hj ha hl
      unfold go_edits_Do.b2
      obtain ⟨b, hb⟩ := may_ok a
      rw [hb, Option.bind_some]
      cases b with
      | false => exact .inl ⟨_, _, rfl, fun h => by cases h⟩
      | true =>
        rw [if_pos rfl, find_eq, Option.bind_some]
        by_cases hk : 0 ≤ findF l a.Name
        · rw [if_pos hk]
          exact .inl ⟨_, _, rfl, fun h => by cases h⟩
        · rw [if_neg hk, apB_ok (by simp; omega), Option.bind_some]
          exact .inr ⟨_, rfl, by simp; omega⟩
    · intro l hl
      by_cases h1 : e.Floor < s.Floor
      · rw [if_pos h1]
        exact ⟨_, _, rfl, fun h => by cases h⟩
      · by_cases h2 : 1048576 < e.Floor
        · rw [if_neg h1, if_pos h2]
          exact ⟨_, _, rfl, fun h => by cases h⟩
        · rw [if_neg h1, if_neg h2, srt_eq (by omega), Option.bind_some]
          exact ⟨_, _, rfl, fun _ => ⟨rfl, by omega, by rw [srt_len]; omega⟩⟩
theorem do_empty {s : editsSet} (h : s.Refs.length ≤ 10000) (f : Int) : go_edits_Do s ⟨[], [], f⟩ = some (if f < s.Floor then (⟨[], 0⟩, 8) else if 1048576 < f then (⟨[], 0⟩, 8) else (⟨srtR s.Refs, f⟩, 0)) := by
  unfold go_edits_Do
  rw [clone_eq (by omega), Option.bind_some]
  unfold go_edits_Do.j1
  show (if f < s.Floor then _ else _) = _
  rw [srt_eq (by omega)]
  split
  · rfl
  · split <;> rfl
end Go.Proofs.Ytjlhookdigbjhaa.Ed
