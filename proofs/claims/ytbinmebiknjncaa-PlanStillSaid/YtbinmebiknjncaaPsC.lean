/- PlanStill, in plain words: the ways that are left. -/
import Derived.Test.YtbinmebiknjncaaPsB
namespace Go.Proofs.Ytbinmebiknjncaa.Ps
open Go Go.Shelf Go.Proofs Go.Proofs.Ytbinmebiknjncaa.Sx Go.Proofs.Ytbinmebiknjncaa.P1 Go.Proofs.Ytbinmebiknjncaa.P2 Go.Proofs.Ytbinmebiknjncaa.P3 Go.Proofs.Ytbinmebiknjncaa.Q1 Go.Proofs.Ytbinmebiknjncaa.S1 Go.Proofs.Ytbinmebiknjncaa.Q2
open Go.Proofs.Ytbinmebiknjncaa.Pl (wr_id apB_ok cutI_ok forL_fold forL_ex md Ok Oks K K_mem K_len srt plan_of plan_unn unn ofS qS cS chain parts pstep pto fullF atOf atM nxt hit mstep max_eq foldl_filter' atOf_nonneg)
set_option linter.unusedVariables false
set_option linter.unusedSimpArgs false
theorem chain_ge (xs : List apiRef) (ask : Int) : ∀ (n : Nat) (at_ : Int) (l : List apiRef), at_ ≤ (chain xs ask n at_ l).1
  | 0, at_, l => by unfold chain; omega
  | n + 1, at_, l => by
    unfold chain
    cases h : nxt xs ask at_ with
    | none => simp only []; omega
    | some a =>
      simp only []
      have h1 := List.find?_some h
      have h2 := chain_ge xs ask n a.To (l ++ [a])
      unfold hit at h1
      simp at h1
      omega
theorem pstep_up (k : Nat) (n i : Int) (j : Nat) (s : Int × List apiRef) (a : apiRef) (hb : i ≤ s.1 ∨ a.From ≤ s.1) : i ≤ (pstep k n i j s a).1 ∨ a.To ≤ (pstep k n i j s a).1 := by
  unfold pstep pto
  repeat' split
  all_goals (try simp only [] at *) <;> omega
/-- The parts from one on lead to the end. -/
theorem parts_lead (m : Nat) (hm : m ≤ 3) (n i at_ : Int) (hn : n ≤ 32) (hi : i ≤ n) (h0 : 0 ≤ at_) (ha : 8 * (m : Int) ≤ at_) : i ≤ (parts (P4.drop m) n i (at_, [])).1 := by
  match m, hm with
  | 0, _ =>
    have e : parts (P4.drop 0) n i (at_, []) = pstep 4 n i 3 (pstep 4 n i 2 (pstep 4 n i 1 (pstep 4 n i 0 (at_, []) ⟨[112, 48], 2, 0, 8⟩) ⟨[112, 49], 2, 8, 16⟩) ⟨[112, 50], 2, 16, 24⟩) ⟨[112, 51], 2, 24, 32⟩ := rfl
    rw [e]
    have h1 := pstep_up 4 n i 0 (at_, []) ⟨[112, 48], 2, 0, 8⟩ (.inr h0)
    have h2 := pstep_up 4 n i 1 _ ⟨[112, 49], 2, 8, 16⟩ h1
    have h3 := pstep_up 4 n i 2 _ ⟨[112, 50], 2, 16, 24⟩ h2
    have h4 := pstep_up 4 n i 3 _ ⟨[112, 51], 2, 24, 32⟩ h3
    simp only [] at h4
    omega
  | 1, _ =>
    have e : parts (P4.drop 1) n i (at_, []) = pstep 3 n i 2 (pstep 3 n i 1 (pstep 3 n i 0 (at_, []) ⟨[112, 49], 2, 8, 16⟩) ⟨[112, 50], 2, 16, 24⟩) ⟨[112, 51], 2, 24, 32⟩ := rfl
    rw [e]
    have h2 := pstep_up 3 n i 0 (at_, []) ⟨[112, 49], 2, 8, 16⟩ (.inr (by simp only []; omega))
    have h3 := pstep_up 3 n i 1 _ ⟨[112, 50], 2, 16, 24⟩ h2
    have h4 := pstep_up 3 n i 2 _ ⟨[112, 51], 2, 24, 32⟩ h3
    simp only [] at h4
    omega
  | 2, _ =>
    have e : parts (P4.drop 2) n i (at_, []) = pstep 2 n i 1 (pstep 2 n i 0 (at_, []) ⟨[112, 50], 2, 16, 24⟩) ⟨[112, 51], 2, 24, 32⟩ := rfl
    rw [e]
    have h3 := pstep_up 2 n i 0 (at_, []) ⟨[112, 50], 2, 16, 24⟩ (.inr (by simp only []; omega))
    have h4 := pstep_up 2 n i 1 _ ⟨[112, 51], 2, 24, 32⟩ h3
    simp only [] at h4
    omega
  | 3, _ =>
    have e : parts (P4.drop 3) n i (at_, []) = pstep 1 n i 0 (at_, []) ⟨[112, 51], 2, 24, 32⟩ := rfl
    rw [e]
    have h4 := pstep_up 1 n i 0 (at_, []) ⟨[112, 51], 2, 24, 32⟩ (.inr (by simp only []; omega))
    simp only [] at h4
    omega
theorem srt_P4 (m : Nat) (hm : m ≤ 3) : srt (P4.drop m) = P4.drop m := by
  match m, hm with
  | 0, _ => decide
  | 1, _ => decide
  | 2, _ => decide
  | 3, _ => decide
/-- A list whose parts are the last ones answers. -/
theorem of_ok {s : editsSet} (hs : Oks s.Refs) {m : Nat} (hm : m ≤ 3) (hp : s.Refs.filter (fun a => decide (a.Kind = 2)) = P4.drop m) {n i : Int} (hn : n ≤ 32) (hi : i ≤ n) (hf : s.Floor ≤ i) (ha : 8 * (m : Int) ≤ atOf (fullF i (K s 0))) : (ofS s n i).2 = 0 := by
  unfold ofS
  rw [if_neg (by omega), if_neg]
  have hK : K s 2 = P4.drop m := by unfold K; rw [hp, srt_P4 m hm]
  have h1 := chain_ge (K s 1) i 2000 (atOf (fullF i (K s 0))) []
  have h2 := atOf_nonneg hs i
  unfold qS
  rw [hK]
  have h3 := parts_lead m hm n i (cS s i).1 hn hi (by unfold cS; omega) (by unfold cS; omega)
  omega
/-- Which parts are not needed: the first ones. -/
theorem parts_unn (x : Int) : ∃ m : Nat, m ≤ 3 ∧ (8 * (m : Int) ≤ x ∨ m = 0) ∧ P4.filter (fun a => !unn x P4 a) = P4.drop m := by
  have hu : ∀ a ∈ P4, unn x P4 a = (!(decide (P4.getLast? = some a)) && decide (a.To ≤ x) && decide (a.From < x)) := fun a ha => by
    unfold unn
    rw [if_neg]
    simp only [P4, List.mem_cons, List.not_mem_nil, or_false] at ha
    rcases ha with rfl | rfl | rfl | rfl <;> decide
  have e : P4.filter (fun a => !unn x P4 a) = P4.filter (fun a => !(!(decide (P4.getLast? = some a)) && decide (a.To ≤ x) && decide (a.From < x))) := List.filter_congr (fun a ha => by rw [hu a ha])
  rw [e]
  by_cases h1 : x < 8
  · refine ⟨0, by omega, .inr rfl, ?_⟩
    have c1 : ¬ (8 : Int) ≤ x := by omega
    have c2 : ¬ (16 : Int) ≤ x := by omega
    have c3 : ¬ (24 : Int) ≤ x := by omega
    simp [P4, List.filter, c1, c2, c3]
  · by_cases h2 : x < 16
    · refine ⟨1, by omega, .inl (by omega), ?_⟩
      have c1 : (8 : Int) ≤ x := by omega
      have c2 : ¬ (16 : Int) ≤ x := by omega
      have c3 : ¬ (24 : Int) ≤ x := by omega
      have d1 : (0 : Int) < x := by omega
      simp [P4, List.filter, c1, c2, c3, d1]
    · by_cases h3 : x < 24
      · refine ⟨2, by omega, .inl (by omega), ?_⟩
        have c1 : (8 : Int) ≤ x := by omega
        have c2 : (16 : Int) ≤ x := by omega
        have c3 : ¬ (24 : Int) ≤ x := by omega
        have d1 : (0 : Int) < x := by omega
        have d2 : (8 : Int) < x := by omega
        simp [P4, List.filter, c1, c2, c3, d1, d2]
      · refine ⟨3, by omega, .inl (by omega), ?_⟩
        have c1 : (8 : Int) ≤ x := by omega
        have c2 : (16 : Int) ≤ x := by omega
        have c3 : (24 : Int) ≤ x := by omega
        have d1 : (0 : Int) < x := by omega
        have d2 : (8 : Int) < x := by omega
        have d3 : (16 : Int) < x := by omega
        simp [P4, List.filter, c1, c2, c3, d1, d2, d3]
/-- A greatest end that is met. -/
theorem fold_ge (ask : Int) : ∀ (xs : List apiRef) (x : Int), x ≤ xs.foldl (fun x a => if a.Kind = 0 then mstep ask x a else x) x ∧ ∀ a ∈ xs, a.Kind = 0 → a.To ≤ ask → a.To ≤ xs.foldl (fun x a => if a.Kind = 0 then mstep ask x a else x) x
  | [], x => ⟨by simp, fun a h => by cases h⟩
  | b :: xs, x => by
    have ih := fold_ge ask xs (if b.Kind = 0 then mstep ask x b else x)
    rw [List.foldl_cons]
    have hb : x ≤ (if b.Kind = 0 then mstep ask x b else x) := by
      split
      · unfold mstep; split <;> omega
      · omega
    refine ⟨by omega, fun a ha hk ht => ?_⟩
    rcases List.mem_cons.1 ha with rfl | ha
    · have : a.To ≤ (if a.Kind = 0 then mstep ask x a else x) := by
        rw [if_pos hk]; unfold mstep; rw [if_pos ht]; omega
      omega
    · exact ih.2 a ha hk ht
theorem full_ge {s : editsSet} (h : Oks s.Refs) {ask : Int} {a : apiRef} (ha : a ∈ s.Refs) (hk : a.Kind = 0) (ht : a.To ≤ ask) : a.To ≤ atOf (fullF ask (K s 0)) := by
  have h1 := (fold_ge ask s.Refs (-1)).2 a ha hk ht
  rw [max_eq h] at h1
  cases hf : fullF ask (K s 0) with
  | none =>
    rw [hf] at h1
    have := h.1 a ha
    unfold Ok at this
    have h2 : a.To ≤ (-1 : Int) := h1
    omega
  | some b => rw [hf] at h1; exact h1
theorem names_filter (c : apiRef → Bool) : ∀ (xs : List apiRef) (l : List Str), xs.foldl (fun l a => if c a then l ++ [a.Name] else l) l = l ++ (xs.filter c).map apiRef.Name
  | [], l => by simp
  | a :: xs, l => by
    rw [List.foldl_cons, names_filter c xs]
    by_cases h : c a = true
    · simp [h]
    · simp [h]
theorem nodup_of_up {l : List apiRef} (h : Up l) : (l.map apiRef.Name).Nodup := by
  have := up_diff h
  exact List.pairwise_map.2 this
theorem name_inj {l : List apiRef} (h : Up l) {a b : apiRef} (ha : a ∈ l) (hb : b ∈ l) (he : a.Name = b.Name) : a = b := by
  have hd := up_diff h
  induction l with
  | nil => cases ha
  | cons c l ih =>
    have h1 := List.pairwise_cons.1 h
    have h2 := List.pairwise_cons.1 hd
    rcases List.mem_cons.1 ha with rfl | ha'
    · rcases List.mem_cons.1 hb with rfl | hb'
      · rfl
      · exact absurd he (h2.1 b hb')
    · rcases List.mem_cons.1 hb with rfl | hb'
      · exact absurd he.symm (h2.1 a ha')
      · exact ih h1.2 ha' hb' h2.2
end Go.Proofs.Ytbinmebiknjncaa.Ps
