/- The plan package's plain law, its fifth part: what leads where, and what is in no plan. -/
import Derived.Test.YtbinmebiknjncaaPlB
namespace Go.Proofs.Ytbinmebiknjncaa.Pl
open Go Go.Proofs.Ytbinmebiknjncaa.Sx Go.Proofs.Ytbinmebiknjncaa.P1 Go.Proofs.Ytbinmebiknjncaa.P2 Go.Proofs.Ytbinmebiknjncaa.P3
set_option linter.unusedVariables false
set_option linter.unusedSimpArgs false
theorem chain_le (xs : List apiRef) (ask : Int) : ∀ (n : Nat) (at_ : Int) (l : List apiRef), at_ ≤ ask → (chain xs ask n at_ l).1 ≤ ask
  | 0, at_, l, h => h
  | n + 1, at_, l, h => by
    unfold chain
    split
    · exact h
    · rename_i a hn
      have hh : hit ask at_ a = true := List.find?_some hn
      simp only [hit, decide_eq_true_eq] at hh
      exact chain_le xs ask n a.To _ hh.2.2
theorem leads_deltas (xs : List apiRef) (hx : ∀ a ∈ xs, a.Kind = 1) (ask : Int) : ∀ (n : Nat) (at_ : Int) (l : List apiRef), ∃ D, (chain xs ask n at_ l).2 = l ++ D ∧ (∀ (k : Int → Option Bool) (i : Nat), forL go_law11_PlanLeads.b1 k i D at_ = k (chain xs ask n at_ l).1) ∧ (∀ (k : Int → Option Bool) (i : Nat), forL go_law11_PlanNone.b3 k i D at_ = k (chain xs ask n at_ l).1)
  | 0, at_, l => ⟨[], by simp [chain], fun k i => rfl, fun k i => rfl⟩
  | n + 1, at_, l => by
    unfold chain
    split
    · exact ⟨[], by simp, fun k i => rfl, fun k i => rfl⟩
    · rename_i a hn
      have hh : hit ask at_ a = true := List.find?_some hn
      have hm : a ∈ xs := List.mem_of_find?_eq_some hn
      simp only [hit, decide_eq_true_eq] at hh
      obtain ⟨D, h1, h2, h3⟩ := leads_deltas xs hx ask n a.To (l ++ [a])
      refine ⟨a :: D, by rw [h1]; simp, fun k i => ?_, fun k i => ?_⟩
      · have h2' := h2 k (i + 1)
        show go_law11_PlanLeads.b1 i a at_ (fun s' => forL go_law11_PlanLeads.b1 k (i + 1) D s') = _
        rw [← h2']
        generalize hT : (fun s' : Int => forL go_law11_PlanLeads.b1 k (i + 1) D s') = T
        have hT' := congrFun hT a.To
        unfold go_law11_PlanLeads.b1
        rw [if_pos (hx a hm), if_pos hh.1, if_neg (by omega)]
        exact hT'.symm
      · exact h3 k (i + 1)
theorem leads_parts (y12 : planPlan × Int) (hN : y12.1.Parts.length ≤ 5000) (n : Nat) (head ask : Int) (k : Int → Option Bool) : ∀ (ys : List apiRef) (j : Nat) (at_ : Int) (l : List apiRef), (∀ a ∈ ys, a.Kind = 2) → j + ys.length = n →
    ∃ Q, (ys.foldl (fun (p : Nat × (Int × List apiRef)) a => (p.1 + 1, pstep n head ask p.1 p.2 a)) (j, (at_, l))).2.2 = l ++ Q ∧
      (Q = [] → (ys.foldl (fun (p : Nat × (Int × List apiRef)) a => (p.1 + 1, pstep n head ask p.1 p.2 a)) (j, (at_, l))).2.1 = at_) ∧
      (∀ (i : Nat), i + Q.length = y12.1.Parts.length → ∃ x', forL (go_law11_PlanLeads.b2 y12) k i Q at_ = k x' ∧ (Q = [] → x' = at_))
  | [], j, at_, l, _, _ => ⟨[], by simp, fun _ => rfl, fun i _ => ⟨at_, rfl, fun _ => rfl⟩⟩
  | a :: ys, j, at_, l, hk, hj => by
    have hka := hk a (List.mem_cons_self ..)
    rw [List.foldl_cons]
    by_cases hc : at_ < ask ∧ a.From ≤ at_ ∧ at_ < pto n head j a
    · have e : pstep n head ask j (at_, l) a = (pto n head j a, l ++ [a]) := by unfold pstep; rw [if_pos hc]
      simp only [e]
      cases ys with
      | nil =>
        refine ⟨[a], rfl, fun h => (by cases h), fun i hi => ⟨max at_ a.To, ?_, fun h => (by cases h)⟩⟩
        show go_law11_PlanLeads.b2 y12 i a at_ (fun s' => k s') = _
        unfold go_law11_PlanLeads.b2 go_law11_PlanLeads.j2
        simp only [List.length_singleton] at hi
        rw [if_pos hka, if_neg (by omega), wr_id (by omega) (by omega), if_neg (by omega), if_neg (by simp)]
      | cons b ys =>
        have hto : pto n head j a = a.To := by
          unfold pto
          rw [if_neg (by simp only [List.length_cons] at hj; omega)]
        rw [hto] at hc ⊢
        obtain ⟨Q, h1, h2, h3⟩ := leads_parts y12 hN n head ask k (b :: ys) (j + 1) a.To (l ++ [a]) (fun x hx => hk x (List.mem_cons_of_mem _ hx)) (by simp only [List.length_cons] at hj ⊢; omega)
        refine ⟨a :: Q, by rw [h1]; simp, fun h => (by cases h), fun i hi => ?_⟩
        obtain ⟨x', h4, _⟩ := h3 (i + 1) (by simp only [List.length_cons] at hi; omega)
        refine ⟨x', ?_, fun h => (by cases h)⟩
        show go_law11_PlanLeads.b2 y12 i a at_ (fun s' => forL (go_law11_PlanLeads.b2 y12) k (i + 1) Q s') = _
        rw [← h4]
        generalize hT : (fun s' : Int => forL (go_law11_PlanLeads.b2 y12) k (i + 1) Q s') = T
        have hT' := congrFun hT a.To
        simp only [List.length_cons] at hi
        have hmx : max at_ a.To = a.To := by omega
        have hd : decide (a.To ≤ at_) = false := by rw [decide_eq_false_iff_not]; omega
        unfold go_law11_PlanLeads.b2 go_law11_PlanLeads.j2
        rw [if_pos hka, if_neg (by omega), hd, hmx]
        split
        · rw [if_neg (by simp)]; exact hT'.symm
        · rw [if_neg (by simp)]; exact hT'.symm
    · have e : pstep n head ask j (at_, l) a = (at_, l) := by unfold pstep; rw [if_neg hc]
      simp only [e]
      exact leads_parts y12 hN n head ask k ys (j + 1) at_ l (fun x hx => hk x (List.mem_cons_of_mem _ hx)) (by simp only [List.length_cons] at hj; omega)
theorem at_le {s : editsSet} {ask : Int} (h0 : 0 ≤ ask) : atOf (fullF ask (K s 0)) ≤ ask := by
  cases hf : fullF ask (K s 0) with
  | none => exact h0
  | some a =>
    rcases full_mem ask _ _ _ hf with h | h
    · cases h
    · exact h.2
theorem planLeads (p0 : List law11Ref) (p1 p2 : UInt8) (p3 : Int8) : go_law11_PlanLeads p0 p1 p2 p3 = some true := by
  unfold go_law11_PlanLeads
  rw [awake, Option.bind_some, if_pos rfl]
  obtain ⟨s, h1, h2, h3, h4⟩ := set_eq p0 p1
  rw [h1, Option.bind_some]
  have hi := int8_le p3
  rw [plan_of h2 (by omega), Option.bind_some]
  obtain ⟨l1, l2⟩ := ofS_len h2 ((p2 % 32).toNat : Int) p3.toInt
  have hj : ofS s ((p2 % 32).toNat : Int) p3.toInt = (⟨none, [], []⟩, 9) ∨ (¬ p3.toInt < s.Floor ∧ ¬ ((p2 % 32).toNat : Int) < p3.toInt ∧ ¬ (qS s ((p2 % 32).toNat : Int) p3.toInt).1 < p3.toInt ∧ ofS s ((p2 % 32).toNat : Int) p3.toInt = (⟨fullF p3.toInt (K s 0), (cS s p3.toInt).2, (qS s ((p2 % 32).toNat : Int) p3.toInt).2⟩, 0)) := by
    unfold ofS
    split
    · exact .inl rfl
    · split
      · exact .inl rfl
      · exact .inr ⟨by omega, by omega, by assumption, rfl⟩
  rcases hj with hj | ⟨c1, c2, c3, hj⟩
  · rw [hj]
    rfl
  · rw [hj] at l1 l2 ⊢
    simp only at l1 l2
    rw [if_pos rfl]
    have key : go_law11_PlanLeads.j1 p2 p3 (⟨fullF p3.toInt (K s 0), (cS s p3.toInt).2, (qS s ((p2 % 32).toNat : Int) p3.toInt).2⟩, 0) (atOf (fullF p3.toInt (K s 0))) = some true := by
      unfold go_law11_PlanLeads.j1
      obtain ⟨D, d1, d2, _⟩ := leads_deltas (K s 1) (fun a ha => (K_mem.1 ha).2) p3.toInt 2000 (atOf (fullF p3.toInt (K s 0))) []
      have hc : (cS s p3.toInt).2 = D := d1
      have hle : (cS s p3.toInt).1 ≤ p3.toInt := chain_le _ _ _ _ _ (at_le (by omega))
      simp only [hc]
      refine (d2 _ 0).trans ?_
      show (if p3.toInt < (cS s p3.toInt).1 then _ else _) = _
      rw [if_neg (by omega)]
      obtain ⟨Q, q1, q2, q3⟩ := leads_parts (⟨fullF p3.toInt (K s 0), D, (qS s ((p2 % 32).toNat : Int) p3.toInt).2⟩, 0) (by simp only; omega) (K s 2).length ((p2 % 32).toNat : Int) p3.toInt (fun x189 => if p3.toInt ≤ ((p2 % 32).toNat : Int) then (if p3.toInt ≤ x189 then (some true) else (some (decide (0 < ((qS s ((p2 % 32).toNat : Int) p3.toInt).2.length : Int))))) else (some false)) (K s 2) 0 (cS s p3.toInt).1 [] (fun a ha => (K_mem.1 ha).2) (by simp)
      have hq : (qS s ((p2 % 32).toNat : Int) p3.toInt).2 = Q := q1
      obtain ⟨x', q4, q5⟩ := q3 0 (by simp only [hq]; omega)
      rw [← hq] at q4
      refine q4.trans ?_
      rw [if_pos (by omega)]
      by_cases hQ : Q = []
      · have e1 := q2 hQ
        have e2 : (qS s ((p2 % 32).toNat : Int) p3.toInt).1 = (cS s p3.toInt).1 := e1
        rw [if_pos (by rw [q5 hQ]; omega)]
      · have : 0 < Q.length := List.length_pos_iff.2 hQ
        rw [hq]
        split
        · rfl
        · rw [decide_eq_true (by omega)]
    revert key
    cases fullF p3.toInt (K s 0) with
    | none => intro key; rw [if_pos rfl]; exact key
    | some a => intro key; rw [if_neg (by simp), Option.bind_some]; exact key
theorem none_loop (p2 : UInt8) (y6 : editsSet) (hf : 0 ≤ y6.Floor) (l : List apiRef) (hl : Oks l) (hk : ∀ a ∈ l, a.Kind ≠ 2) : ∀ (n : Nat) (x : Int) (m : Nat), y6.Floor ≤ x → ((p2 % 32).toNat : Int) + 1 - x ≤ n → n < m → loopF (go_law11_PlanNone.b2 p2 y6) m (x, l) = some true
  | n, x, 0, _, _, h => by omega
  | n, x, m + 1, h0, h1, h2 => by
    have m3 := md (x := p2) (n := 32) (by decide)
    have n3 : (32 : UInt8).toNat = 32 := rfl
    show go_law11_PlanNone.b2 p2 y6 (x, l) (loopF (go_law11_PlanNone.b2 p2 y6) m) = _
    by_cases hc : x ≤ ((p2 % 32).toNat : Int)
    · have ih := none_loop p2 y6 hf l hl hk (n - 1) (x + 1) m (by omega) (by omega) (by omega)
      generalize loopF (go_law11_PlanNone.b2 p2 y6) m = nx at ih
      unfold go_law11_PlanNone.b2
      simp only []
      rw [if_pos hc, plan_of (s := ⟨l, y6.Floor⟩) hl (by omega), Option.bind_some]
      have hw : wr (x + 1) = x + 1 := wr_id (by omega) (by omega)
      have hj : ofS ⟨l, y6.Floor⟩ ((p2 % 32).toNat : Int) x = (⟨none, [], []⟩, 9) ∨ (¬ (qS ⟨l, y6.Floor⟩ ((p2 % 32).toNat : Int) x).1 < x ∧ ofS ⟨l, y6.Floor⟩ ((p2 % 32).toNat : Int) x = (⟨fullF x (K ⟨l, y6.Floor⟩ 0), (cS ⟨l, y6.Floor⟩ x).2, (qS ⟨l, y6.Floor⟩ ((p2 % 32).toNat : Int) x).2⟩, 0)) := by
        unfold ofS
        split
        · exact .inl rfl
        · split
          · exact .inl rfl
          · exact .inr ⟨by assumption, rfl⟩
      rcases hj with hj | ⟨c3, hj⟩
      · rw [hj]
        show nx (wr (x + 1), l) = _
        rw [hw]
        exact ih
      · rw [hj]
        have hK : K ⟨l, y6.Floor⟩ 2 = [] := by
          unfold K
          rw [List.filter_eq_nil_iff.2 (fun a ha => by simpa using hk a ha)]
          rfl
        have hq : qS ⟨l, y6.Floor⟩ ((p2 % 32).toNat : Int) x = ((cS ⟨l, y6.Floor⟩ x).1, []) := by
          unfold qS parts
          rw [hK]
          rfl
        rw [hq] at c3 ⊢
        simp only at c3
        have hle : (cS ⟨l, y6.Floor⟩ x).1 ≤ x := chain_le _ _ _ _ _ (at_le (by omega))
        have key : go_law11_PlanNone.j1 x l nx (⟨fullF x (K ⟨l, y6.Floor⟩ 0), (cS ⟨l, y6.Floor⟩ x).2, []⟩, 0) (atOf (fullF x (K ⟨l, y6.Floor⟩ 0))) = some true := by
          unfold go_law11_PlanNone.j1
          obtain ⟨D, d1, _, d2⟩ := leads_deltas (K ⟨l, y6.Floor⟩ 1) (fun a ha => (K_mem.1 ha).2) x 2000 (atOf (fullF x (K ⟨l, y6.Floor⟩ 0))) []
          have hcc : (cS ⟨l, y6.Floor⟩ x).2 = D := d1
          simp only [hcc]
          refine (d2 _ 0).trans ?_
          show (if (cS ⟨l, y6.Floor⟩ x).1 = x then nx (wr (x + 1), l) else some false) = _
          rw [if_pos (by omega), hw]
          exact ih
        revert key
        cases fullF x (K ⟨l, y6.Floor⟩ 0) with
        | none => intro key; rw [if_pos rfl]; exact key
        | some a => intro key; rw [if_neg (by simp), Option.bind_some]; exact key
    · unfold go_law11_PlanNone.b2
      simp only []
      rw [if_neg hc]
theorem planNone (p0 : List law11Ref) (p1 p2 : UInt8) : go_law11_PlanNone p0 p1 p2 = some true := by
  unfold go_law11_PlanNone
  rw [awake, Option.bind_some, if_pos rfl]
  obtain ⟨s, h1, h2, h3, h4⟩ := set_eq p0 p1
  have m3 := md (x := p2) (n := 32) (by decide)
  have n3 : (32 : UInt8).toNat = 32 := rfl
  rw [h1, Option.bind_some, wr_id (by omega) (by omega), plan_of h2 (by omega), Option.bind_some, wr_id (by omega) (by omega), plan_of h2 (by omega), Option.bind_some]
  have e1 : ofS s ((p2 % 32).toNat : Int) (s.Floor - 1) = (⟨none, [], []⟩, 9) := by unfold ofS; rw [if_pos (.inl (by omega))]
  have e2 : ofS s ((p2 % 32).toNat : Int) (((p2 % 32).toNat : Int) + 1) = (⟨none, [], []⟩, 9) := by unfold ofS; rw [if_pos (.inr (by omega))]
  rw [e1, e2, if_pos rfl, if_pos rfl]
  rw [forL_fold (fun l a => if !(decide (a.Kind = 2)) then l ++ [a] else l) (fun j l => l.length ≤ j) _ _ _ (by simp) ?_]
  · rw [foldl_filter', List.nil_append]
    exact none_loop p2 s h3 _ (h2.filter _) (fun a ha => by simpa using (List.mem_filter.1 ha).2) 1000 _ fuel (Int.le_refl _) (by omega) (by rw [fuel_eq]; omega)
  · intro j a l nx _ hj ha hl
    have := h2.2
    unfold go_law11_PlanNone.b1
    by_cases hk : a.Kind = 2
    · rw [if_pos hk]
      simp [hk]; omega
    · rw [if_neg hk, apB_ok (by simp; omega)]
      simp [hk]; omega
end Go.Proofs.Ytbinmebiknjncaa.Pl
