/- The plan package's plain law, its fourth part: the law of plan.Of. -/
import Derived.Test.YtbinmebiknjncaaPlC
namespace Go.Proofs.Ytbinmebiknjncaa.Pl
open Go Go.Proofs.Ytbinmebiknjncaa.Sx Go.Proofs.Ytbinmebiknjncaa.P1 Go.Proofs.Ytbinmebiknjncaa.P2 Go.Proofs.Ytbinmebiknjncaa.P3
set_option linter.unusedVariables false
set_option linter.unusedSimpArgs false
/-- The law's search for the next delta, from behind. -/
theorem find_back (p2 : UInt8) (p3 : Int8) (s : editsSet) (y12 : planPlan × Int) (y24 : apiRef × Int) (at_ : Int) (l : List apiRef) (hl : l.length ≤ 100000) (nx : (Int × List apiRef) → Option Bool) (ys : List apiRef) (hy : ys.length ≤ 1000) (E : Option Bool)
    (hE : ∀ nxb, go_law11_PlanOf.b2 p2 p3 s y12 y24 at_ l nx ys (-1, -1) nxb = E) :
    ∀ (n : Nat) (best : Int) (m : Nat), n ≤ ys.length → n < m → (best = -1 ∧ nxt (ys.drop n) p3.toInt at_ = none ∨ ∃ (i : Nat) (a : apiRef), best = (i : Int) ∧ ys[i]? = some a ∧ nxt (ys.drop n) p3.toInt at_ = some a) →
      loopF (go_law11_PlanOf.b2 p2 p3 s y12 y24 at_ l nx ys) m (best, (n : Int) - 1) = match nxt ys p3.toInt at_ with
        | none => E
        | some a => nx (a.To, l ++ [a])
  | n, best, 0, _, h, _ => by omega
  | 0, best, m + 1, h1, h2, h3 => by
    rw [List.drop_zero] at h3
    rcases h3 with ⟨rfl, h3⟩ | ⟨i, a, rfl, h4, h3⟩
    · rw [h3]
      exact hE _
    · rw [h3]
      show go_law11_PlanOf.b2 p2 p3 s y12 y24 at_ l nx ys _ _ = _
      unfold go_law11_PlanOf.b2
      simp only []
      rw [if_neg (by omega), if_neg (by omega), atI_ok h4, Option.bind_some, apB_ok (by simp; omega), Option.bind_some]
  | n + 1, best, m + 1, h1, h2, h3 => by
    have e : ys[n]? = some (ys[n]'(by omega)) := List.getElem?_eq_getElem _
    have hd : ys.drop n = (ys[n]'(by omega)) :: ys.drop (n + 1) := List.drop_eq_getElem_cons (by omega)
    have ew : wr (((n + 1 : Nat) : Int) - 1 - 1) = (n : Int) - 1 := by rw [wr_id (by omega) (by omega)]; omega
    have ej : ((n + 1 : Nat) : Int) - 1 = (n : Int) := by omega
    generalize ys[n]'(by omega) = y at e hd
    have ih := fun best => find_back p2 p3 s y12 y24 at_ l hl nx ys hy E hE n best m (by omega) (by omega)
    rw [hd] at ih
    show go_law11_PlanOf.b2 p2 p3 s y12 y24 at_ l nx ys (best, ((n + 1 : Nat) : Int) - 1) (loopF (go_law11_PlanOf.b2 p2 p3 s y12 y24 at_ l nx ys) m) = _
    rw [go_law11_PlanOf.b2]
    simp only [ew]
    rw [ej] at *
    rw [if_pos (by omega), atI_ok e, Option.bind_some]
    by_cases h : hit p3.toInt at_ y = true
    · have e2 : nxt (y :: ys.drop (n + 1)) p3.toInt at_ = some y := by simp [nxt, h]
      have := ih (n : Int) (.inr ⟨n, y, rfl, e, e2⟩)
      simp only [hit, decide_eq_true_eq] at h
      rw [if_pos h.1, if_pos h.2.1, if_pos h.2.2]
      exact this
    · have e2 : nxt (y :: ys.drop (n + 1)) p3.toInt at_ = nxt (ys.drop (n + 1)) p3.toInt at_ := by simp [nxt, h]
      rw [e2] at ih
      have := ih best h3
      simp only [hit, decide_eq_true_eq] at h
      by_cases c1 : y.From = at_
      · by_cases c2 : at_ < y.To
        · rw [if_pos c1, if_pos c2, if_neg (fun c3 => h ⟨c1, c2, c3⟩)]
          exact this
        · rw [if_pos c1, if_neg c2]
          exact this
      · rw [if_neg c1]
        exact this
theorem lb3_eq (p2 : UInt8) (p3 : Int8) (ys : List apiRef) (hy : ys.length ≤ 1000) (k : (Int × List apiRef) → Option Bool) (at_ : Int) :
    forL (go_law11_PlanOf.b3 p2 p3 ys) k 0 ys (at_, []) = k (parts ys ((p2 % 32).toNat : Int) p3.toInt (at_, [])) := by
  refine forL_go (pstep ys.length ((p2 % 32).toNat : Int) p3.toInt) (fun j s => s.2.length ≤ j) ys 0 (at_, []) (Nat.le_refl _) ?_
  intro j a ⟨x, l⟩ nx _ ha he hs
  refine ⟨?_, pstep_len hs⟩
  have hj : j < ys.length := by
    rcases Nat.lt_or_ge j ys.length with h' | h'
    · exact h'
    · rw [Nat.sub_zero, List.getElem?_eq_none h'] at he; cases he
  have hw : wr ((ys.length : Int) - 1) = (ys.length : Int) - 1 := wr_id (by omega) (by omega)
  have key : ∀ to : Int, go_law11_PlanOf.j3 p3 x l a nx to = nx (if x < p3.toInt ∧ a.From ≤ x ∧ x < to then (to, l ++ [a]) else (x, l)) := by
    intro to
    unfold go_law11_PlanOf.j3
    simp only at hs
    by_cases h1 : x < p3.toInt
    · by_cases h2 : a.From ≤ x
      · by_cases h3 : x < to
        · rw [if_pos h1, if_pos h2, if_pos h3, apB_ok (by simp; omega), Option.bind_some, if_pos ⟨h1, h2, h3⟩]
        · rw [if_pos h1, if_pos h2, if_neg h3, if_neg (fun h => h3 h.2.2)]
      · rw [if_pos h1, if_neg h2, if_neg (fun h => h2 h.2.1)]
    · rw [if_neg h1, if_neg (fun h => h1 h.1)]
  show go_law11_PlanOf.b3 p2 p3 ys j a (x, l) nx = nx (pstep ys.length ((p2 % 32).toNat : Int) p3.toInt j (x, l) a)
  unfold go_law11_PlanOf.b3 pstep pto
  simp only [hw]
  split
  · unfold go_law11_PlanOf.j2
    split
    · rename_i h
      rw [decide_eq_true_eq] at h
      rw [key, show max a.To ((p2 % 32).toNat : Int) = ((p2 % 32).toNat : Int) by omega]
    · rename_i h
      rw [decide_eq_true_eq] at h
      rw [key, show max a.To ((p2 % 32).toNat : Int) = a.To by omega]
  · unfold go_law11_PlanOf.j2
    rw [if_neg (by simp), key]
/-- What the law asks at the end. -/
def fin (y12 : planPlan × Int) (y24 : apiRef × Int) (ask : Int) (l : List apiRef) (q : Int × List apiRef) : Option Bool :=
  if q.1 < ask then (if y12.2 = 9 then (if y12.1.Full = none then (some (decide ((y12.1.Deltas.length : Int) = 0))) else (some false)) else (some false)) else (if y12.2 = 0 then (if (!(decide (y12.1.Full = none))) = (decide (0 ≤ y24.2)) then (if 0 ≤ y24.2 then ((y12.1.Full).bind fun y1569 => if y1569 = y24.1 then ((go_law11_refs y12.1.Deltas l).bind fun y1574 => if y1574 then ((go_law11_refs y12.1.Parts q.2).bind fun y1578 => some y1578) else (some false)) else (some false)) else ((go_law11_refs y12.1.Deltas l).bind fun y1561 => if y1561 then ((go_law11_refs y12.1.Parts q.2).bind fun y1565 => some y1565) else (some false))) else (some false)) else (some false))
theorem law_chain (p2 : UInt8) (p3 : Int8) {s : editsSet} (h : Oks s.Refs) (y12 : planPlan × Int) (y24 : apiRef × Int) : ∀ (n : Nat) (at_ : Int) (l : List apiRef) (m : Nat), p3.toInt - at_ ≤ n → l.length + n ≤ 5000 → n + 2 ≤ m →
    loopF (go_law11_PlanOf.b1 p2 p3 s y12 y24) m (at_, l) = fin y12 y24 p3.toInt (chain (K s 1) p3.toInt n at_ l).2 (parts (K s 2) ((p2 % 32).toNat : Int) p3.toInt ((chain (K s 1) p3.toInt n at_ l).1, []))
  | n, at_, l, 0, _, _, h3 => by omega
  | n, at_, l, m + 1, h1, h2, h3 => by
    have hk1 : (K s 1).length ≤ 1000 := Nat.le_trans K_len (by have := h.2; omega)
    have hk2 : (K s 2).length ≤ 1000 := Nat.le_trans K_len (by have := h.2; omega)
    show go_law11_PlanOf.b1 p2 p3 s y12 y24 (at_, l) (loopF (go_law11_PlanOf.b1 p2 p3 s y12 y24) m) = _
    generalize hN : loopF (go_law11_PlanOf.b1 p2 p3 s y12 y24) m = nx
    rw [go_law11_PlanOf.b1]
    rw [of_eq h, Option.bind_some]
    have ew : wr (((K s 1).length : Int) - 1) = ((K s 1).length : Int) - 1 := wr_id (by omega) (by omega)
    rw [ew]
    have hE : ∀ nxb, go_law11_PlanOf.b2 p2 p3 s y12 y24 at_ l nx (K s 1) (-1, -1) nxb = fin y12 y24 p3.toInt l (parts (K s 2) ((p2 % 32).toNat : Int) p3.toInt (at_, [])) := by
      intro nxb
      unfold go_law11_PlanOf.b2
      simp only []
      rw [if_neg (by omega), if_pos (by omega), of_eq h, Option.bind_some]
      exact lb3_eq p2 p3 (K s 2) hk2 _ at_
    have fb := find_back p2 p3 s y12 y24 at_ l (by omega) nx (K s 1) hk1 _ hE (K s 1).length (-1) fuel (Nat.le_refl _) (by rw [fuel_eq]; omega) (.inl ⟨rfl, by rw [List.drop_length]; rfl⟩)
    refine fb.trans ?_
    cases hn : nxt (K s 1) p3.toInt at_ with
    | none =>
      have hc : chain (K s 1) p3.toInt n at_ l = (at_, l) := by
        cases n with
        | zero => rfl
        | succ n => simp [chain, hn]
      rw [hc]
    | some a =>
      have hh : hit p3.toInt at_ a = true := List.find?_some hn
      simp only [hit, decide_eq_true_eq] at hh
      cases n with
      | zero => exfalso; have := hh.2; omega
      | succ n =>
        have hc : chain (K s 1) p3.toInt (n + 1) at_ l = chain (K s 1) p3.toInt n a.To (l ++ [a]) := by simp [chain, hn]
        rw [hc]
        show nx (a.To, l ++ [a]) = _
        rw [← hN]
        exact law_chain p2 p3 h y12 y24 n a.To (l ++ [a]) m (by have := hh.2; omega) (by simp; omega) (by omega)
theorem fullL_at {s : editsSet} (h : Oks s.Refs) (ask : Int) : max (fullL (fullF ask (K s 0))).2 0 = atOf (fullF ask (K s 0)) := by
  have := atOf_nonneg h ask
  revert this
  cases fullF ask (K s 0) with
  | none => intro _; rfl
  | some a => intro h; show max a.To 0 = a.To; have : 0 ≤ a.To := h; omega
theorem planOf (p0 : List law11Ref) (p1 p2 : UInt8) (p3 : Int8) : go_law11_PlanOf p0 p1 p2 p3 = some true := by
  unfold go_law11_PlanOf
  rw [awake, Option.bind_some, if_pos rfl]
  obtain ⟨s, h1, h2, h3, h4⟩ := set_eq p0 p1
  rw [h1, Option.bind_some]
  have hi := int8_le p3
  rw [plan_of h2 (by omega), Option.bind_some]
  have bad : (p3.toInt < s.Floor ∨ ((p2 % 32).toNat : Int) < p3.toInt) → go_law11_PlanOf.j1 p2 p3 s (ofS s ((p2 % 32).toNat : Int) p3.toInt) true = some true := by
    intro hc
    unfold go_law11_PlanOf.j1 ofS
    rw [if_pos rfl, if_pos hc]
    rfl
  by_cases hc1 : p3.toInt < s.Floor
  · rw [if_pos hc1]
    exact bad (.inl hc1)
  · rw [if_neg hc1]
    by_cases hc2 : ((p2 % 32).toNat : Int) < p3.toInt
    · rw [decide_eq_true hc2]
      exact bad (.inr hc2)
    · rw [decide_eq_false hc2]
      unfold go_law11_PlanOf.j1
      rw [if_neg (by simp), law_full h2, Option.bind_some, fullL_at h2]
      have lc := law_chain p2 p3 h2 (ofS s ((p2 % 32).toNat : Int) p3.toInt) (fullL (fullF p3.toInt (K s 0))) 2000 (atOf (fullF p3.toInt (K s 0))) [] fuel (by have := atOf_nonneg h2 p3.toInt; omega) (by simp) (by rw [fuel_eq]; omega)
      refine lc.trans ?_
      show fin _ _ p3.toInt (cS s p3.toInt).2 (qS s ((p2 % 32).toNat : Int) p3.toInt) = some true
      obtain ⟨l1, l2⟩ := ofS_len h2 ((p2 % 32).toNat : Int) p3.toInt
      revert l1 l2
      unfold fin ofS
      rw [if_neg (by omega)]
      by_cases hq : (qS s ((p2 % 32).toNat : Int) p3.toInt).1 < p3.toInt
      · rw [if_pos hq]
        intro _ _
        rw [if_pos hq]
        rfl
      · rw [if_neg hq]
        intro l1 l2
        simp only at l1 l2
        rw [if_neg hq, if_pos rfl]
        have r1 := refs_eq (xs := (cS s p3.toInt).2) (by omega)
        have r2 := refs_eq (xs := (qS s ((p2 % 32).toNat : Int) p3.toInt).2) (by omega)
        have hnn := atOf_nonneg h2 p3.toInt
        revert hnn
        cases fullF p3.toInt (K s 0) with
        | none =>
          intro _
          rw [if_pos (by rfl), if_neg (by show ¬ (0 : Int) ≤ -1; omega)]
          simp only [r1, r2, Option.bind_some, if_true]
        | some a =>
          intro hnn
          have hnn' : 0 ≤ a.To := hnn
          rw [if_pos (by show (!(decide (some a = none))) = decide (0 ≤ a.To); rw [decide_eq_true hnn']; rfl), if_pos (by exact hnn'), Option.bind_some]
          simp only [fullL, r1, r2, Option.bind_some, if_true]
end Go.Proofs.Ytbinmebiknjncaa.Pl
