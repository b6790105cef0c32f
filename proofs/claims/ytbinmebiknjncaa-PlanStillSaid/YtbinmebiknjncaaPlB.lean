/- The plan package's plain law, its second part: what plan.Of answers, in plain words; the laws' set. -/
import Derived.Test.YtbinmebiknjncaaPlA
import Derived.Test.YtbinmebiknjncaaP3
namespace Go.Proofs.Ytbinmebiknjncaa.Pl
open Go Go.Proofs.Ytbinmebiknjncaa.Sx Go.Proofs.Ytbinmebiknjncaa.P1 Go.Proofs.Ytbinmebiknjncaa.P2 Go.Proofs.Ytbinmebiknjncaa.P3
set_option linter.unusedVariables false
set_option linter.unusedSimpArgs false
set_option maxRecDepth 100000 in
theorem awake : go_law11_awake = some true := by kernel_rfl
theorem forL_ex {α S R : Type} {body : Nat → α → S → (S → Option R) → Option R} {k : S → Option R} (I : Nat → S → Prop) : ∀ (xs : List α) (i : Nat) (s : S), I i s → (∀ (j : Nat) (a : α) (s : S) (nx : S → Option R), i ≤ j → j < i + xs.length → a ∈ xs → I j s → ∃ s', body j a s nx = nx s' ∧ I (j + 1) s') →
    ∃ s', forL body k i xs s = k s' ∧ I (i + xs.length) s'
  | [], i, s, h, _ => ⟨s, rfl, h⟩
  | x :: xs, i, s, hI, h => by
    obtain ⟨s1, h1, h2⟩ := h i x s (fun s' => forL body k (i + 1) xs s') (Nat.le_refl _) (by simp) (List.mem_cons_self ..) hI
    obtain ⟨s2, h3, h4⟩ := forL_ex (body := body) (k := k) I xs (i + 1) s1 h2 (fun j a s nx hj hj' ha hs => h j a s nx (by omega) (by simp; omega) (List.mem_cons_of_mem _ ha) hs)
    refine ⟨s2, ?_, by rw [List.length_cons, show i + (xs.length + 1) = i + 1 + xs.length by omega]; exact h4⟩
    show body i x s (fun s' => forL body k (i + 1) xs s') = _
    rw [h1, h3]
theorem md {x n : UInt8} (h : 0 < n.toNat) : (x % n).toNat < n.toNat := by rw [UInt8.toNat_mod]; exact Nat.mod_lt _ h
def Ks (s : editsSet) : Prop := ∀ a ∈ s.Refs, a.Kind = 0 ∨ a.Kind = 1 ∨ a.Kind = 2
theorem set_eq (p0 : List law11Ref) (p1 : UInt8) : ∃ s, go_law11_Set p0 p1 = some s ∧ Oks s.Refs ∧ (0 ≤ s.Floor ∧ s.Floor ≤ 11) := by
  unfold go_law11_Set
  have e : cutI p0 0 (min (p0.length : Int) 14) = some (p0.take (min p0.length 14)) := by
    rw [show min (p0.length : Int) 14 = ((min p0.length 14 : Nat) : Int) by omega, show (0 : Int) = ((0 : Nat) : Int) from rfl, cutI_ok (by omega) (by omega)]
    rfl
  rw [e, Option.bind_some]
  obtain ⟨s', h1, h2⟩ := forL_ex (body := go_law11_Set.b1) (k := fun l59 => some (⟨l59, ((p1 % 12).toNat : Int)⟩ : editsSet)) (fun j l => l.length = j ∧ ∀ a ∈ l, Ok a) (p0.take (min p0.length 14)) 0 [] ⟨rfl, fun a h => (by cases h)⟩ (by
    intro j a l nx _ hj ha ⟨hl, hI⟩
    have h14 : j < 14 := by simp at hj; omega
    have m1 := md (x := a.Kind) (n := 3) (by decide)
    have m2 := md (x := a.From) (n := 24) (by decide)
    have m3 := md (x := a.Long) (n := 9) (by decide)
    have n1 : (3 : UInt8).toNat = 3 := rfl
    have n2 : (24 : UInt8).toNat = 24 := rfl
    have n3 : (9 : UInt8).toNat = 9 := rfl
    unfold go_law11_Set.b1
    split
    · rename_i hk
      unfold go_law11_Set.j1
      rw [apB_ok (by simp; omega), Option.bind_some]
      refine ⟨_, rfl, by simp [hl], fun b hb => ?_⟩
      rcases List.mem_append.1 hb with hb | hb
      · exact hI b hb
      · rw [List.mem_singleton] at hb
        subst hb
        exact ⟨by simp only; omega, by simp only; omega, by simp only; omega, fun _ => rfl⟩
    · rename_i hk
      unfold go_law11_Set.j1
      rw [apB_ok (by simp; omega), Option.bind_some]
      refine ⟨_, rfl, by simp [hl], fun b hb => ?_⟩
      rcases List.mem_append.1 hb with hb | hb
      · exact hI b hb
      · rw [List.mem_singleton] at hb
        subst hb
        have hw : wr (((a.From % 24).toNat : Int) + ((a.Long % 9).toNat : Int)) = ((a.From % 24).toNat : Int) + ((a.Long % 9).toNat : Int) := wr_id (by omega) (by omega)
        rw [hw]
        exact ⟨by simp only; omega, by simp only; omega, by simp only; omega, fun h => absurd h hk⟩)
  refine ⟨_, h1, ⟨h2.2, by rw [h2.1]; simp; omega⟩, ?_⟩
  have m1 := md (x := p1) (n := 12) (by decide)
  have n1 : (12 : UInt8).toNat = 12 := rfl
  exact ⟨by simp only; omega, by simp only; omega⟩
-- ---- plan.Of ----
def fullF (ask : Int) (xs : List apiRef) : Option apiRef := xs.foldl (fun o a => if a.To ≤ ask then some a else o) none
def atOf : Option apiRef → Int
  | none => 0
  | some a => a.To
def hit (ask at_ : Int) (a : apiRef) : Bool := decide (a.From = at_ ∧ at_ < a.To ∧ a.To ≤ ask)
def nxt (xs : List apiRef) (ask at_ : Int) : Option apiRef := xs.find? (hit ask at_)
def chain (xs : List apiRef) (ask : Int) : Nat → Int → List apiRef → Int × List apiRef
  | 0, at_, l => (at_, l)
  | n + 1, at_, l => match nxt xs ask at_ with
    | none => (at_, l)
    | some a => chain xs ask n a.To (l ++ [a])
def pto (n : Nat) (head : Int) (j : Nat) (a : apiRef) : Int := if (j : Int) = (n : Int) - 1 then max a.To head else a.To
def pstep (n : Nat) (head ask : Int) (j : Nat) (s : Int × List apiRef) (a : apiRef) : Int × List apiRef :=
  if s.1 < ask ∧ a.From ≤ s.1 ∧ s.1 < pto n head j a then (pto n head j a, s.2 ++ [a]) else s
def parts (xs : List apiRef) (head ask : Int) (s : Int × List apiRef) : Int × List apiRef :=
  (xs.foldl (fun (p : Nat × (Int × List apiRef)) a => (p.1 + 1, pstep xs.length head ask p.1 p.2 a)) (0, s)).2
def cS (s : editsSet) (ask : Int) : Int × List apiRef := chain (K s 1) ask 2000 (atOf (fullF ask (K s 0))) []
def qS (s : editsSet) (head ask : Int) : Int × List apiRef := parts (K s 2) head ask ((cS s ask).1, [])
def ofS (s : editsSet) (head ask : Int) : planPlan × Int :=
  if ask < s.Floor ∨ head < ask then (⟨none, [], []⟩, 9)
  else if (qS s head ask).1 < ask then (⟨none, [], []⟩, 9)
  else (⟨fullF ask (K s 0), (cS s ask).2, (qS s head ask).2⟩, 0)
theorem pstep_len {n j : Nat} {head ask : Int} {s : Int × List apiRef} {a : apiRef} (h : s.2.length ≤ j) : (pstep n head ask j s a).2.length ≤ j + 1 := by
  unfold pstep
  split
  · simp; omega
  · omega
theorem b3_eq (ask at_ : Int) (l : List apiRef) (hl : l.length ≤ 100000) (nx : (Int × Bool × List apiRef) → Option (planPlan × Int)) : ∀ (xs : List apiRef) (i : Nat),
    forL (go_plan_Of.b3 ask at_ l nx) (fun _ => nx (at_, false, l)) i xs () = match nxt xs ask at_ with
      | none => nx (at_, false, l)
      | some a => nx (a.To, true, l ++ [a])
  | [], i => rfl
  | x :: xs, i => by
    have ih := b3_eq ask at_ l hl nx xs (i + 1)
    show go_plan_Of.b3 ask at_ l nx i x () (fun s' => forL (go_plan_Of.b3 ask at_ l nx) (fun _ => nx (at_, false, l)) (i + 1) xs s') = _
    generalize hT : (fun s' : Unit => forL (go_plan_Of.b3 ask at_ l nx) (fun _ => nx (at_, false, l)) (i + 1) xs s') = T
    have ih' := (congrFun hT ()).symm.trans ih
    unfold go_plan_Of.b3
    simp only [ih']
    by_cases h : hit ask at_ x = true
    · have e : nxt (x :: xs) ask at_ = some x := by simp [nxt, h]
      rw [e]
      simp only [hit, decide_eq_true_eq] at h
      rw [if_pos h.1, if_pos h.2.1, if_pos h.2.2, apB_ok (by simp; omega), Option.bind_some]
    · have e : nxt (x :: xs) ask at_ = nxt xs ask at_ := by simp [nxt, h]
      rw [e]
      simp only [hit, decide_eq_true_eq, Bool.not_eq_true] at h
      by_cases h1 : x.From = at_
      · by_cases h2 : at_ < x.To
        · have h3 : ¬ x.To ≤ ask := fun h3 => h (by exact ⟨h1, h2, h3⟩)
          rw [if_pos h1, if_pos h2, if_neg h3]
        · rw [if_pos h1, if_neg h2]
      · rw [if_neg h1]
theorem b4_eq (head ask : Int) (ys : List apiRef) (hy : ys.length ≤ 1000) (k : (Int × List apiRef) → Option (planPlan × Int)) (at_ : Int) :
    forL (go_plan_Of.b4 head ask ys) k 0 ys (at_, []) = k (parts ys head ask (at_, [])) := by
  refine forL_go (pstep ys.length head ask) (fun j s => s.2.length ≤ j) ys 0 (at_, []) (Nat.le_refl _) ?_
  intro j a ⟨x, l⟩ nx _ ha he hs
  refine ⟨?_, pstep_len hs⟩
  have hj : j < ys.length := by
    rcases Nat.lt_or_ge j ys.length with h' | h'
    · exact h'
    · rw [Nat.sub_zero, List.getElem?_eq_none h'] at he; cases he
  have hw : wr ((ys.length : Int) - 1) = (ys.length : Int) - 1 := wr_id (by omega) (by omega)
  have key : ∀ to : Int, go_plan_Of.j1 ask x l a nx to = nx (if x < ask ∧ a.From ≤ x ∧ x < to then (to, l ++ [a]) else (x, l)) := by
    intro to
    unfold go_plan_Of.j1
    simp only at hs
    by_cases h1 : x < ask
    · by_cases h2 : a.From ≤ x
      · by_cases h3 : x < to
        · rw [if_pos h1, if_pos h2, if_pos h3, apB_ok (by simp; omega), Option.bind_some, if_pos ⟨h1, h2, h3⟩]
        · rw [if_pos h1, if_pos h2, if_neg h3, if_neg (fun h => h3 h.2.2)]
      · rw [if_pos h1, if_neg h2, if_neg (fun h => h2 h.2.1)]
    · rw [if_neg h1, if_neg (fun h => h1 h.1)]
  show go_plan_Of.b4 head ask ys j a (x, l) nx = nx (pstep ys.length head ask j (x, l) a)
  unfold go_plan_Of.b4 pstep pto
  simp only [hw]
  split
  · exact key _
  · exact key _
theorem b2_end {s : editsSet} (h : Oks s.Refs) (head ask : Int) (o : Option apiRef) (at_ : Int) (l : List apiRef) (nx : (Int × Bool × List apiRef) → Option (planPlan × Int)) :
    go_plan_Of.b2 s head ask o (at_, false, l) nx = if (parts (K s 2) head ask (at_, [])).1 < ask then some (⟨none, [], []⟩, 9) else some (⟨o, l, (parts (K s 2) head ask (at_, [])).2⟩, 0) := by
  unfold go_plan_Of.b2
  have hl : (K s 2).length ≤ 1000 := Nat.le_trans K_len (by have := h.2; omega)
  simp only [Bool.false_eq_true, if_false]
  rw [kind_eq h, Option.bind_some, b4_eq head ask _ hl]
theorem chain_eq {s : editsSet} (h : Oks s.Refs) (head ask : Int) (o : Option apiRef) : ∀ (n : Nat) (at_ : Int) (l : List apiRef) (m : Nat), ask - at_ ≤ n → l.length + n ≤ 5000 → n + 2 ≤ m →
    loopF (go_plan_Of.b2 s head ask o) m (at_, true, l) = if (parts (K s 2) head ask ((chain (K s 1) ask n at_ l).1, [])).1 < ask then some (⟨none, [], []⟩, 9) else some (⟨o, (chain (K s 1) ask n at_ l).2, (parts (K s 2) head ask ((chain (K s 1) ask n at_ l).1, [])).2⟩, 0)
  | n, at_, l, 0, _, _, h3 => by omega
  | n, at_, l, 1, _, _, h3 => by omega
  | n, at_, l, m + 2, h1, h2, h3 => by
    have e : loopF (go_plan_Of.b2 s head ask o) (m + 2) (at_, true, l) = match nxt (K s 1) ask at_ with
      | none => loopF (go_plan_Of.b2 s head ask o) (m + 1) (at_, false, l)
      | some a => loopF (go_plan_Of.b2 s head ask o) (m + 1) (a.To, true, l ++ [a]) := by
      show go_plan_Of.b2 s head ask o (at_, true, l) (loopF (go_plan_Of.b2 s head ask o) (m + 1)) = _
      rw [go_plan_Of.b2]
      simp only [if_true]
      rw [kind_eq h, Option.bind_some, b3_eq ask at_ l (by omega)]
    have e0 : loopF (go_plan_Of.b2 s head ask o) (m + 1) (at_, false, l) = _ := b2_end h head ask o at_ l _
    rw [e]
    cases hn : nxt (K s 1) ask at_ with
    | none =>
      have hc : chain (K s 1) ask n at_ l = (at_, l) := by
        cases n with
        | zero => rfl
        | succ n => simp [chain, hn]
      rw [hc]
      exact e0
    | some a =>
      have hh : hit ask at_ a = true := List.find?_some hn
      simp only [hit, decide_eq_true_eq] at hh
      cases n with
      | zero => exfalso; have := hh.2; omega
      | succ n =>
        have hc : chain (K s 1) ask (n + 1) at_ l = chain (K s 1) ask n a.To (l ++ [a]) := by simp [chain, hn]
        rw [hc]
        exact chain_eq h head ask o n a.To (l ++ [a]) (m + 1) (by have := hh.2; omega) (by simp; omega) (by omega)
theorem b1_eq (ask : Int) (k : (Int × Option apiRef) → Option (planPlan × Int)) : ∀ (xs : List apiRef) (i : Nat) (o : Option apiRef),
    forL (go_plan_Of.b1 ask) k i xs (atOf o, o) = k (atOf (xs.foldl (fun o a => if a.To ≤ ask then some a else o) o), xs.foldl (fun o a => if a.To ≤ ask then some a else o) o)
  | [], i, o => rfl
  | x :: xs, i, o => by
    show go_plan_Of.b1 ask i x (atOf o, o) (fun s' => forL (go_plan_Of.b1 ask) k (i + 1) xs s') = _
    unfold go_plan_Of.b1
    rw [List.foldl_cons]
    by_cases h : x.To ≤ ask
    · simp only [if_pos h]
      exact b1_eq ask k xs (i + 1) (some x)
    · simp only [if_neg h]
      exact b1_eq ask k xs (i + 1) o
theorem full_mem (ask : Int) : ∀ (xs : List apiRef) (o : Option apiRef) (a : apiRef), xs.foldl (fun o a => if a.To ≤ ask then some a else o) o = some a → o = some a ∨ a ∈ xs ∧ a.To ≤ ask
  | [], o, a, h => .inl h
  | x :: xs, o, a, h => by
    rw [List.foldl_cons] at h
    rcases full_mem ask xs _ a h with h | h
    · split at h
      · cases h; exact .inr ⟨List.mem_cons_self .., by assumption⟩
      · exact .inl h
    · exact .inr ⟨List.mem_cons_of_mem _ h.1, h.2⟩
theorem atOf_nonneg {s : editsSet} (h : Oks s.Refs) (ask : Int) : 0 ≤ atOf (fullF ask (K s 0)) := by
  cases hf : fullF ask (K s 0) with
  | none => exact Int.le_refl _
  | some a =>
    rcases full_mem ask _ _ _ hf with h' | h'
    · cases h'
    · have := h.1 a (K_mem.1 h'.1).1
      unfold Ok at this
      show 0 ≤ a.To
      omega
theorem plan_of {s : editsSet} (h : Oks s.Refs) {head ask : Int} (ha : ask ≤ 1000) : go_plan_Of s head ask = some (ofS s head ask) := by
  unfold go_plan_Of ofS
  by_cases h1 : ask < s.Floor
  · rw [if_pos h1, if_pos (.inl h1)]
  · by_cases h2 : head < ask
    · rw [if_neg h1, if_pos h2, if_pos (.inr h2)]
    · rw [if_neg h1, if_neg h2, if_neg (by omega), kind_eq h, Option.bind_some]
      have e := b1_eq ask (fun (x657, o658) => loopF (go_plan_Of.b2 s head ask o658) fuel (x657, true, [])) (K s 0) 0 none
      refine e.trans ?_
      have e2 := chain_eq h head ask (fullF ask (K s 0)) 2000 (atOf (fullF ask (K s 0))) [] fuel (by have := atOf_nonneg h ask; omega) (by simp) (by rw [fuel_eq]; omega)
      refine e2.trans ?_
      show (if (qS s head ask).1 < ask then _ else _) = _
      split <;> rfl
theorem refs_self : ∀ (pre xs : List apiRef), pre.length + xs.length ≤ 100000 → forL (go_law11_refs.b1 (pre ++ xs)) (fun _ => some true) pre.length xs () = some true
  | pre, [], _ => rfl
  | pre, x :: xs, h => by
    show go_law11_refs.b1 (pre ++ x :: xs) pre.length x () (fun s' => forL (go_law11_refs.b1 (pre ++ x :: xs)) (fun _ => some true) (pre.length + 1) xs s') = _
    have := refs_self (pre ++ [x]) xs (by simp at h ⊢; omega)
    rw [List.append_assoc, List.singleton_append, List.length_append, List.length_singleton] at this
    generalize hT : (fun s' : Unit => forL (go_law11_refs.b1 (pre ++ x :: xs)) (fun _ => some true) (pre.length + 1) xs s') = T
    have ih' := (congrFun hT ()).symm.trans this
    unfold go_law11_refs.b1
    rw [atI_ok (by simp : (pre ++ x :: xs)[pre.length]? = some x), Option.bind_some, if_pos rfl]
    exact ih'
theorem refs_eq {xs : List apiRef} (h : xs.length ≤ 100000) : go_law11_refs xs xs = some true := by
  unfold go_law11_refs
  rw [if_pos rfl]
  exact refs_self [] xs (by simpa using h)
theorem chain_len (xs : List apiRef) (ask : Int) : ∀ (n : Nat) (at_ : Int) (l : List apiRef), (chain xs ask n at_ l).2.length ≤ l.length + n
  | 0, at_, l => Nat.le_refl _
  | n + 1, at_, l => by
    unfold chain
    split
    · simp
    · rename_i a _
      have := chain_len xs ask n a.To (l ++ [a])
      simp at this
      omega
theorem parts_len (n : Nat) (head ask : Int) : ∀ (xs : List apiRef) (j : Nat) (s : Int × List apiRef), s.2.length ≤ j → (xs.foldl (fun (p : Nat × (Int × List apiRef)) a => (p.1 + 1, pstep n head ask p.1 p.2 a)) (j, s)).2.2.length ≤ j + xs.length
  | [], j, s, h => h
  | x :: xs, j, s, h => by
    rw [List.foldl_cons, List.length_cons]
    have := parts_len n head ask xs (j + 1) _ (pstep_len (n := n) (head := head) (ask := ask) (a := x) h)
    exact Nat.le_trans this (by omega)
theorem ofS_len {s : editsSet} (h : Oks s.Refs) (head ask : Int) : (ofS s head ask).1.Deltas.length ≤ 2000 ∧ (ofS s head ask).1.Parts.length ≤ 2000 := by
  unfold ofS
  split
  · exact ⟨by simp, by simp⟩
  · split
    · exact ⟨by simp, by simp⟩
    · have h1 := chain_len (K s 1) ask 2000 (atOf (fullF ask (K s 0))) []
      have h2 := parts_len (K s 2).length head ask (K s 2) 0 ((cS s ask).1, []) (by simp)
      have h3 := K_len (s := s) (k := 2)
      have h4 := h.2
      refine ⟨by simpa [cS] using h1, ?_⟩
      show (qS s head ask).2.length ≤ 2000
      refine Nat.le_trans (m := 0 + (K s 2).length) h2 (by omega)
theorem int8_le (x : Int8) : -128 ≤ x.toInt ∧ x.toInt ≤ 127 := ⟨Int8.le_toInt x, by have := Int8.toInt_lt x; omega⟩
-- ---- the floor ----
theorem planFloor (p0 : List law11Ref) (p1 p2 p3 p4 : UInt8) : go_law11_PlanFloor p0 p1 p2 p3 p4 = some true := by
  unfold go_law11_PlanFloor
  rw [awake, Option.bind_some, if_pos rfl]
  obtain ⟨s, h1, h2, h3, h4⟩ := set_eq p0 p1
  rw [h1, Option.bind_some]
  have m3 := md (x := p3) (n := 32) (by decide)
  have m4 := md (x := p4) (n := 9) (by decide)
  have n3 : (32 : UInt8).toNat = 32 := rfl
  have n4 : (9 : UInt8).toNat = 9 := rfl
  rw [plan_of h2 (by omega), Option.bind_some]
  have hw : wr (s.Floor + ((p4 % 9).toNat : Int)) = s.Floor + ((p4 % 9).toNat : Int) := wr_id (by omega) (by omega)
  rw [hw]
  rw [plan_of (s := ⟨s.Refs, s.Floor + ((p4 % 9).toNat : Int)⟩) h2 (by omega), Option.bind_some]
  generalize hask : ((p3 % 32).toNat : Int) = ask
  generalize hhd : ((p2 % 32).toNat : Int) = head
  generalize hfl : s.Floor + ((p4 % 9).toNat : Int) = fl
  by_cases h : ask < fl
  · rw [if_pos h]
    have : ofS ⟨s.Refs, fl⟩ head ask = (⟨none, [], []⟩, 9) := by unfold ofS; rw [if_pos (.inl h)]
    rw [this]
    rfl
  · rw [if_neg h]
    have : ofS ⟨s.Refs, fl⟩ head ask = ofS s head ask := by
      unfold ofS
      have e1 : (ask < (⟨s.Refs, fl⟩ : editsSet).Floor ∨ head < ask) ↔ (ask < s.Floor ∨ head < ask) := by
        show (ask < fl ∨ head < ask) ↔ _
        omega
      by_cases hc : ask < s.Floor ∨ head < ask
      · rw [if_pos hc, if_pos (e1.2 hc)]
      · rw [if_neg hc, if_neg (fun h => hc (e1.1 h))]
        rfl
    obtain ⟨l1, l2⟩ := ofS_len h2 head ask
    rw [this, if_pos rfl, refs_eq (by omega), Option.bind_some, if_pos rfl, refs_eq (by omega), Option.bind_some, if_pos rfl]
    simp
end Go.Proofs.Ytbinmebiknjncaa.Pl
