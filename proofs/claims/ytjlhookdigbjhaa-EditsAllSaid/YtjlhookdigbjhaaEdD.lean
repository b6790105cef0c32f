/- The edits package's plain law, its fourth part: EditsAll. -/
import Derived.Test.YtjlhookdigbjhaaEdC
namespace Go.Proofs.Ytjlhookdigbjhaa.Ed
open Go Go.Shelf Go.Sort Go.Proofs Go.Proofs.Ytjlhookdigbjhaa.Sx Go.Proofs.Ytjlhookdigbjhaa.E1 Go.Proofs.Ytjlhookdigbjhaa.S1 Go.Proofs.Ytjlhookdigbjhaa.E2 Go.Proofs.Ytjlhookdigbjhaa.E3
set_option linter.unusedVariables false
set_option linter.unusedSimpArgs false
theorem add_all (x : Int) (k : List apiRef → Option (editsSet × Int)) : ∀ (rest pre : List apiRef) (i : Nat), Diff (pre ++ rest) → (∀ a ∈ rest, go_edits_May a = some true) → pre.length + rest.length ≤ 10000 → forL (go_edits_Do.b2 x) k i rest pre = k (pre ++ rest)
  | [], pre, i, _, _, _ => by rw [List.append_nil]; rfl
  | a :: rest, pre, i, hd, hm, hl => by
    have ih := add_all x k rest (pre ++ [a]) (i + 1) (by rw [List.append_assoc]; exact hd) (fun b hb => hm b (List.mem_cons_of_mem _ hb)) (by simp at hl ⊢; omega)
    show go_edits_Do.b2 x i a pre (fun s' => forL (go_edits_Do.b2 x) k (i + 1) rest s') = _
    generalize hT : (fun s' => forL (go_edits_Do.b2 x) k (i + 1) rest s') = T
    have ih' := (congrFun hT (pre ++ [a])).symm.trans ih
    unfold go_edits_Do.b2
    have hn : findF pre a.Name = -1 := findF_neg.2 fun b hb => (List.pairwise_append.1 hd).2.2 b hb a (List.mem_cons_self ..)
    rw [hm a (List.mem_cons_self ..), Option.bind_some, if_pos rfl, find_eq, Option.bind_some]
    simp only [hn]
    rw [if_neg (by omega), apB_ok (by simp at hl ⊢; omega), Option.bind_some, ih', List.append_assoc]
    rfl
theorem do_all {s : editsSet} (h : Fine s) (hl : s.Refs.length ≤ 10000) : go_edits_Do ⟨[], 0⟩ ⟨s.Refs, [], s.Floor⟩ = some (s, 0) := by
  unfold go_edits_Do
  rw [clone_eq (by simp), Option.bind_some]
  unfold go_edits_Do.j1
  show forL (go_edits_Do.b2 s.Floor) _ 0 s.Refs [] = _
  rw [add_all _ _ s.Refs [] 0 (up_diff h.1) h.2.1 (by simp; omega), List.nil_append]
  have h1 := h.2.2.1
  have h2 := h.2.2.2
  show (if s.Floor < 0 then _ else _) = _
  rw [if_neg (by omega), if_neg (show ¬ 1048576 < s.Floor by omega), srt_eq (by omega), Option.bind_some, srt_id h.1]
theorem refs_self (x : Int) (c : Int) : ∀ (pre xs : List apiRef), forL (go_law10_EditsAll.b2 (⟨pre ++ xs, x⟩, c)) (fun _ => some true) pre.length xs () = some true
  | pre, [] => rfl
  | pre, a :: xs => by
    show go_law10_EditsAll.b2 (⟨pre ++ a :: xs, x⟩, c) pre.length a () (fun s' => forL (go_law10_EditsAll.b2 (⟨pre ++ a :: xs, x⟩, c)) (fun _ => some true) (pre.length + 1) xs s') = _
    have := refs_self x c (pre ++ [a]) xs
    rw [List.append_assoc, List.singleton_append, List.length_append, List.length_singleton] at this
    generalize hT : (fun s' : Unit => forL (go_law10_EditsAll.b2 (⟨pre ++ a :: xs, x⟩, c)) (fun _ => some true) (pre.length + 1) xs s') = T
    have ih' := (congrFun hT ()).symm.trans this
    unfold go_law10_EditsAll.b2
    have e : atI (pre ++ a :: xs) (pre.length : Int) = some a := by
      unfold atI
      rw [if_pos (by omega)]
      simp
    simp only [e]
    rw [Option.bind_some, if_pos rfl]
    exact ih'
theorem editsAll (p0 : List law10Step) : go_law10_EditsAll p0 = some true := by
  unfold go_law10_EditsAll
  rw [awake, Option.bind_some, if_pos rfl]
  have hcut : cutI p0 0 (min (p0.length : Int) 40) = some (p0.take (min p0.length 40)) := by
    rw [show min (p0.length : Int) 40 = ((min p0.length 40 : Nat) : Int) by omega, show (0 : Int) = ((0 : Nat) : Int) from rfl, cutI_ok (by omega) (by omega)]
    rfl
  rw [hcut, Option.bind_some]
  refine forL_or (fun (j : Nat) (s : List apiRef × Int) => s.1.length ≤ 5 * j ∧ Fine ⟨s.1, s.2⟩) (fun r => r = some true) _ _ _ ⟨Nat.le_refl _, List.Pairwise.nil, fun a h => (by cases h), Int.le_refl _, by show (0 : Int) ≤ 1048576; omega⟩ ?_ ?_
  · intro j a ⟨l, x⟩ nx _ hj ha ⟨hl, hF⟩
    refine .inr ?_
    have h40 : j < 40 := by simp at hj; omega
    simp only at hl hF
    obtain ⟨e, he, hel⟩ := edit_ok a
    obtain ⟨t, c, ht, hc⟩ := do_fine (s := ⟨l, x⟩) (e := e) hF (by simp only; omega)
    unfold go_law10_EditsAll.b1
    simp only []
    rw [he, Option.bind_some, ht, Option.bind_some]
    unfold go_law10_EditsAll.j1
    by_cases h0 : c = 0
    · obtain ⟨h1, h2⟩ := hc h0
      have h2' : t.Refs.length ≤ l.length + e.Add.length := h2
      rw [if_pos h0]
      exact ⟨(t.Refs, t.Floor), rfl, by show t.Refs.length ≤ 5 * (j + 1); omega, h1⟩
    · rw [if_neg h0]
      exact ⟨(l, x), rfl, by show l.length ≤ 5 * (j + 1); omega, hF⟩
  · intro ⟨l, x⟩ ⟨hl, hF⟩
    have hl2 : l.length ≤ 200 := by simp at hl; omega
    have e1 : go_edits_All (⟨l, x⟩ : editsSet) = some ⟨l, [], x⟩ := by
      unfold go_edits_All
      rw [clone_eq (by simp only; omega)]
      rfl
    have e2 := do_all hF (by simp only; omega)
    simp only at e2
    show ((go_edits_All (⟨l, x⟩ : editsSet)).bind _) = some true
    rw [e1, Option.bind_some, e2, Option.bind_some, if_pos rfl, if_pos rfl, if_pos rfl]
    exact refs_self x 0 [] l
end Go.Proofs.Ytjlhookdigbjhaa.Ed
