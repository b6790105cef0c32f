/- The plan package's plain law, its third part: the pair and the unneeded. -/
import Derived.Test.YtbinmebiknjncaaPlB
namespace Go.Proofs.Ytbinmebiknjncaa.Pl
open Go Go.Proofs.Ytbinmebiknjncaa.Sx Go.Proofs.Ytbinmebiknjncaa.P1 Go.Proofs.Ytbinmebiknjncaa.P2 Go.Proofs.Ytbinmebiknjncaa.P3
set_option linter.unusedVariables false
set_option linter.unusedSimpArgs false
-- ---- the pair ----
def pick (a b : apiRef) : Bool := decide (a.To = b.From ∧ a ≠ b ∧ b.From < b.To)
def zref : apiRef := ⟨[], 0, 0, 0⟩
def pairF (ys : List apiRef) : List apiRef → apiRef × apiRef × Bool
  | [] => (zref, zref, false)
  | x :: xs => match ys.find? (pick x) with
    | some b => (x, b, true)
    | none => pairF ys xs
theorem pair_inner (a : apiRef) (k : Unit → Option (apiRef × apiRef × Bool)) : ∀ (ys : List apiRef) (i : Nat), forL (go_plan_Pair.b2 a) k i ys () = match ys.find? (pick a) with
    | some b => some (a, b, true)
    | none => k ()
  | [], i => rfl
  | y :: ys, i => by
    have ih := pair_inner a k ys (i + 1)
    show go_plan_Pair.b2 a i y () (fun s' => forL (go_plan_Pair.b2 a) k (i + 1) ys s') = _
    generalize hT : (fun s' : Unit => forL (go_plan_Pair.b2 a) k (i + 1) ys s') = T
    have ih' := (congrFun hT ()).symm.trans ih
    unfold go_plan_Pair.b2
    simp only [ih']
    by_cases h : pick a y = true
    · rw [List.find?_cons_of_pos h]
      simp only [pick, decide_eq_true_eq] at h
      rw [if_pos h.1, if_neg h.2.1, if_pos h.2.2]
    · rw [List.find?_cons_of_neg h]
      simp only [pick, decide_eq_true_eq] at h
      by_cases h1 : a.To = y.From
      · by_cases h2 : a = y
        · rw [if_pos h1, if_pos h2]
        · rw [if_pos h1, if_neg h2, if_neg (fun h3 => h ⟨h1, h2, h3⟩)]
      · rw [if_neg h1]
theorem pair_outer (ys : List apiRef) : ∀ (xs : List apiRef) (i : Nat), forL (go_plan_Pair.b1 ys) (fun _ => some (zref, zref, false)) i xs () = some (pairF ys xs)
  | [], i => rfl
  | x :: xs, i => by
    have ih := pair_outer ys xs (i + 1)
    show go_plan_Pair.b1 ys i x () (fun s' => forL (go_plan_Pair.b1 ys) (fun _ => some (zref, zref, false)) (i + 1) xs s') = _
    generalize hT : (fun s' : Unit => forL (go_plan_Pair.b1 ys) (fun _ => some (zref, zref, false)) (i + 1) xs s') = T
    have ih' := (congrFun hT ()).symm.trans ih
    unfold go_plan_Pair.b1 pairF
    refine (pair_inner x (fun _ => T ()) ys 0).trans ?_
    split
    · rfl
    · exact ih'
theorem plan_pair {s : editsSet} (h : Oks s.Refs) : go_plan_Pair s = some (pairF (K s 1) (K s 1)) := by
  unfold go_plan_Pair
  rw [kind_eq h, Option.bind_some]
  exact pair_outer _ _ _
theorem lpair_inner (y9 : apiRef × apiRef × Bool) (a : apiRef) (k : Unit → Option Bool) : ∀ (ys : List apiRef) (i : Nat), forL (go_law11_PlanPair.b2 y9 a) k i ys () = match ys.find? (pick a) with
    | some b => (if y9.2.2 then (if y9.1 = a then (some (decide (y9.2.1 = b))) else (some false)) else (some false))
    | none => k ()
  | [], i => rfl
  | y :: ys, i => by
    have ih := lpair_inner y9 a k ys (i + 1)
    show go_law11_PlanPair.b2 y9 a i y () (fun s' => forL (go_law11_PlanPair.b2 y9 a) k (i + 1) ys s') = _
    generalize hT : (fun s' : Unit => forL (go_law11_PlanPair.b2 y9 a) k (i + 1) ys s') = T
    have ih' := (congrFun hT ()).symm.trans ih
    unfold go_law11_PlanPair.b2
    simp only [ih']
    by_cases h : pick a y = true
    · rw [List.find?_cons_of_pos h]
      simp only [pick, decide_eq_true_eq] at h
      rw [if_pos h.1.symm, if_pos h.2.2, if_neg h.2.1]
    · rw [List.find?_cons_of_neg h]
      simp only [pick, decide_eq_true_eq] at h
      by_cases h1 : a.To = y.From
      · by_cases h2 : a = y
        · by_cases h3 : y.From < y.To
          · rw [if_pos h1.symm, if_pos h3, if_pos h2]
          · rw [if_pos h1.symm, if_neg h3]
        · rw [if_pos h1.symm, if_neg (fun h3 => h ⟨h1, h2, h3⟩)]
      · rw [if_neg (fun h => h1 h.symm)]
theorem lpair_outer (y9 : apiRef × apiRef × Bool) (ys : List apiRef) (k : Unit → Option Bool) (hk : y9 = (zref, zref, false) → k () = some true) : ∀ (xs : List apiRef) (i : Nat), y9 = pairF ys xs → forL (go_law11_PlanPair.b1 y9 ys) k i xs () = some true
  | [], i, h => hk h
  | x :: xs, i, h => by
    have ih := lpair_outer y9 ys k hk xs (i + 1)
    show go_law11_PlanPair.b1 y9 ys i x () (fun s' => forL (go_law11_PlanPair.b1 y9 ys) k (i + 1) xs s') = _
    generalize hT : (fun s' : Unit => forL (go_law11_PlanPair.b1 y9 ys) k (i + 1) xs s') = T
    have hT' := congrFun hT ()
    unfold go_law11_PlanPair.b1
    refine (lpair_inner y9 x (fun _ => T ()) ys 0).trans ?_
    unfold pairF at h
    split
    · rename_i b hb
      rw [hb] at h
      subst h
      simp
    · rename_i hb
      rw [hb] at h
      exact hT'.symm.trans (ih h)
theorem planPair (p0 : List law11Ref) : go_law11_PlanPair p0 = some true := by
  unfold go_law11_PlanPair
  rw [awake, Option.bind_some, if_pos rfl]
  obtain ⟨s, h1, h2, h3, h4⟩ := set_eq p0 0
  rw [h1, Option.bind_some, plan_pair h2, Option.bind_some, of_eq h2, Option.bind_some]
  refine lpair_outer _ _ _ (fun h => ?_) _ _ rfl
  simp only [h]
  rfl
-- ---- the unneeded ----
def atM : Option apiRef → Int
  | none => -1
  | some a => a.To
def fl2 (o : Option apiRef) : Int × Str × Int × Int × Int := match o with
  | none => (-1, [], 0, 0, 0)
  | some a => (a.To, a.Name, a.Kind, a.From, a.To)
theorem full_loop (ask : Int) (k : (Int × Str × Int × Int × Int) → Option (apiRef × Int)) : ∀ (xs : List apiRef) (i : Nat) (o : Option apiRef),
    forL (go_law11_full.b1 ask) k i xs (fl2 o) = k (fl2 (xs.foldl (fun o a => if a.To ≤ ask then some a else o) o))
  | [], i, o => rfl
  | x :: xs, i, o => by
    have ih := fun o => full_loop ask k xs (i + 1) o
    show go_law11_full.b1 ask i x (fl2 o) (fun s' => forL (go_law11_full.b1 ask) k (i + 1) xs s') = _
    generalize hT : (fun s' => forL (go_law11_full.b1 ask) k (i + 1) xs s') = T
    have ih' := fun o => (congrFun hT (fl2 o)).symm.trans (ih o)
    rw [List.foldl_cons]
    unfold go_law11_full.b1
    by_cases h : x.To ≤ ask
    · rw [if_pos h]
      refine Eq.trans ?_ (ih' (some x))
      simp only [if_pos h]
      rfl
    · rw [if_neg h]
      refine Eq.trans ?_ (ih' o)
      simp only [if_neg h]
def fullL (o : Option apiRef) : apiRef × Int := match o with
  | none => (zref, -1)
  | some a => (a, a.To)
theorem law_full {s : editsSet} (h : Oks s.Refs) (ask : Int) : go_law11_full s ask = some (fullL (fullF ask (K s 0))) := by
  unfold go_law11_full
  rw [of_eq h, Option.bind_some]
  refine (full_loop ask _ (K s 0) 0 none).trans ?_
  show _ = some (fullL (fullF ask (K s 0)))
  unfold fullF
  generalize (K s 0).foldl (fun o a => if a.To ≤ ask then some a else o) none = o
  cases o <;> rfl
/-- The sort sorts. -/
def Down (xs : List apiRef) : Prop := xs.Pairwise fun a b => lt a b = false
theorem insB_down (a : apiRef) : ∀ xs, Down xs → Down (insB a xs)
  | [], _ => List.pairwise_singleton _ _
  | y :: ys, h => by
    have h1 := List.pairwise_cons.1 h
    unfold insB
    split
    · rename_i hc
      refine List.pairwise_cons.2 ⟨fun z hz => ?_, insB_down a ys h1.2⟩
      rcases List.mem_cons.1 ((insB_perm a ys).mem_iff.1 hz) with rfl | hz
      · simp [lt] at hc ⊢; omega
      · exact h1.1 z hz
    · rename_i hc
      refine List.pairwise_cons.2 ⟨fun z hz => ?_, h⟩
      rcases List.mem_cons.1 hz with rfl | hz
      · simpa using hc
      · have := h1.1 z hz
        simp [lt] at hc this ⊢; omega
theorem srt_up : ∀ (xs l : List apiRef), Down l.reverse → Down (xs.foldl ins l).reverse
  | [], l, h => h
  | x :: xs, l, h => srt_up xs _ (by unfold ins; rw [List.reverse_reverse]; exact insB_down x _ h)
theorem K_up (s : editsSet) (k : Int) : (K s k).Pairwise fun a b => lt b a = false := by
  have := srt_up (s.Refs.filter fun a => decide (a.Kind = k)) [] List.Pairwise.nil
  unfold Down at this
  rw [List.pairwise_reverse] at this
  exact this
def mstep (ask : Int) (x : Int) (a : apiRef) : Int := if a.To ≤ ask then max x a.To else x
theorem full_max (ask : Int) : ∀ (xs : List apiRef) (o : Option apiRef), (xs.Pairwise fun a b => a.To ≤ b.To) → (∀ a ∈ xs, atM o ≤ a.To) → xs.foldl (mstep ask) (atM o) = atM (xs.foldl (fun o a => if a.To ≤ ask then some a else o) o)
  | [], o, _, _ => rfl
  | x :: xs, o, hp, h => by
    have h1 := List.pairwise_cons.1 hp
    have h2 := h x (List.mem_cons_self ..)
    rw [List.foldl_cons, List.foldl_cons]
    unfold mstep
    by_cases hc : x.To ≤ ask
    · rw [if_pos hc, if_pos hc]
      rw [show max (atM o) x.To = atM (some x) by show max (atM o) x.To = x.To; omega]
      exact full_max ask xs (some x) h1.2 h1.1
    · rw [if_neg hc, if_neg hc]
      exact full_max ask xs o h1.2 (fun a ha => h a (List.mem_cons_of_mem _ ha))
theorem max_eq {s : editsSet} (h : Oks s.Refs) (ask : Int) : s.Refs.foldl (fun x a => if a.Kind = 0 then mstep ask x a else x) (-1) = atM (fullF ask (K s 0)) := by
  have e1 : s.Refs.foldl (fun x a => if a.Kind = 0 then mstep ask x a else x) (-1) = (s.Refs.filter fun a => decide (a.Kind = 0)).foldl (mstep ask) (-1) := by
    rw [List.foldl_filter]
    simp
  have e2 : (K s 0).foldl (mstep ask) (-1) = (s.Refs.filter fun a => decide (a.Kind = 0)).foldl (mstep ask) (-1) := by
    refine List.Perm.foldl_eq' (srt_perm _) (fun x _ y _ z => ?_) _
    unfold mstep
    split <;> split <;> omega
  rw [e1, ← e2]
  refine full_max ask (K s 0) none ?_ (fun a ha => ?_)
  · refine (K_up s 0).imp_of_mem (fun {a b} ha hb hc => ?_)
    have h1 := K_mem.1 ha
    have h2 := K_mem.1 hb
    have h3 := h.1 a h1.1
    have h4 := h.1 b h2.1
    have h5 := h3.2.2.2 h1.2
    have h6 := h4.2.2.2 h2.2
    simp [lt] at hc
    omega
  · have h3 := h.1 a (K_mem.1 ha).1
    unfold Ok at h3
    show (-1 : Int) ≤ a.To
    omega
def unn (x : Int) (ps : List apiRef) (a : apiRef) : Bool :=
  if a.Kind = 0 then decide (a.To < x) else (!(decide (ps.getLast? = some a)) && decide (a.To ≤ x) && decide (a.From < x))
theorem last_at {ps : List apiRef} (h : 0 < ps.length) (h' : ps.length ≤ 1000) : ∃ y, atI ps (wr ((ps.length : Int) - 1)) = some y ∧ ps.getLast? = some y := by
  have e : ps[ps.length - 1]? = some (ps[ps.length - 1]'(by omega)) := List.getElem?_eq_getElem _
  refine ⟨_, ?_, by rw [List.getLast?_eq_getElem?]; exact e⟩
  rw [wr_id (by omega) (by omega), show (ps.length : Int) - 1 = ((ps.length - 1 : Nat) : Int) by omega]
  exact atI_ok e
theorem names_fold (c : apiRef → Bool) (b : Nat) {R : Type} {body : Nat → apiRef → List Str → (List Str → Option R) → Option R} {k : List Str → Option R} (xs : List apiRef) (hx : xs.length ≤ 1000)
    (h : ∀ (i : Nat) (a : apiRef) (l : List Str) (nx : List Str → Option R), l.length ≤ 1000 → body i a l nx = nx (if c a then l ++ [a.Name] else l)) :
    forL body k 0 xs [] = k (xs.foldl (fun l a => if c a then l ++ [a.Name] else l) []) := by
  refine forL_fold (fun l a => if c a then l ++ [a.Name] else l) (fun j l => l.length ≤ j) xs 0 [] (Nat.le_refl _) (fun j a l nx _ hj ha hl => ⟨h j a l nx (by omega), ?_⟩)
  split
  · simp; omega
  · omega
theorem plan_unn {s : editsSet} (h : Oks s.Refs) (ask : Int) : go_plan_Unneeded s ask = some (s.Refs.foldl (fun l a => if unn (atM (fullF ask (K s 0))) (K s 2) a then l ++ [a.Name] else l) []) := by
  unfold go_plan_Unneeded
  rw [forL_fold (fun x a => if a.Kind = 0 then mstep ask x a else x) (fun _ _ => True) s.Refs 0 (-1) trivial (fun j a x nx _ _ _ _ => ⟨by unfold go_plan_Unneeded.b1 mstep; by_cases c1 : a.Kind = 0 <;> by_cases c2 : a.To ≤ ask <;> simp [c1, c2], trivial⟩)]
  rw [max_eq h, kind_eq h, Option.bind_some]
  have hk : (K s 2).length ≤ 1000 := Nat.le_trans K_len (by have := h.2; omega)
  generalize atM (fullF ask (K s 0)) = x
  generalize K s 2 = ps at hk
  refine names_fold (unn x ps) 16 s.Refs (by have := h.2; omega) (fun i a l nx hl => ?_)
  have j2 : ∀ b, go_plan_Unneeded.j2 l a nx b = nx (if b then l ++ [a.Name] else l) := by
    intro b
    unfold go_plan_Unneeded.j2
    cases b with
    | true => rw [if_pos rfl, apB_ok (by simp; omega), Option.bind_some, if_pos rfl]
    | false => simp
  have j1 : ∀ b, go_plan_Unneeded.j1 x l a nx b = nx (if (if a.Kind = 0 then decide (a.To < x) else (!b && decide (a.To ≤ x) && decide (a.From < x))) then l ++ [a.Name] else l) := by
    intro b
    unfold go_plan_Unneeded.j1
    simp only [j2]
    by_cases c1 : a.Kind = 0 <;> by_cases c2 : a.To < x <;> by_cases c3 : a.To ≤ x <;> by_cases c4 : a.From < x <;> simp [c1, c2, c3, c4]
  unfold go_plan_Unneeded.b2 unn
  by_cases h0 : 0 < ps.length
  · obtain ⟨y, e1, e2⟩ := last_at h0 hk
    rw [if_pos (by omega), e1, Option.bind_some, j1, e2]
    simp only [Option.some.injEq, eq_comm]
  · rw [if_neg (by omega), j1]
    have : ps = [] := List.length_eq_zero_iff.1 (by omega)
    subst this
    simp
theorem strs_self : ∀ (pre xs : List Str), forL (go_law11_PlanUnneeded.b2 (pre ++ xs)) (fun _ => some true) pre.length xs () = some true
  | pre, [] => rfl
  | pre, x :: xs => by
    show go_law11_PlanUnneeded.b2 (pre ++ x :: xs) pre.length x () (fun s' => forL (go_law11_PlanUnneeded.b2 (pre ++ x :: xs)) (fun _ => some true) (pre.length + 1) xs s') = some true
    have := strs_self (pre ++ [x]) xs
    rw [List.append_assoc, List.singleton_append, List.length_append, List.length_singleton] at this
    generalize hT : (fun s' : Unit => forL (go_law11_PlanUnneeded.b2 (pre ++ x :: xs)) (fun _ => some true) (pre.length + 1) xs s') = T
    have ih' := (congrFun hT ()).symm.trans this
    unfold go_law11_PlanUnneeded.b2
    rw [atI_ok (by simp : (pre ++ x :: xs)[pre.length]? = some x), Option.bind_some, if_pos rfl]
    exact ih'
theorem planUnneeded (p0 : List law11Ref) (p1 p2 : UInt8) : go_law11_PlanUnneeded p0 p1 p2 = some true := by
  unfold go_law11_PlanUnneeded
  rw [awake, Option.bind_some, if_pos rfl]
  obtain ⟨s, h1, h2, h3, h4⟩ := set_eq p0 p1
  rw [h1, Option.bind_some, law_full h2, Option.bind_some, of_eq h2, Option.bind_some]
  generalize ((p2 % 30).toNat : Int) = ask
  have hk : (K s 2).length ≤ 1000 := Nat.le_trans K_len (by have := h2.2; omega)
  have ex : (fullL (fullF ask (K s 0))).2 = atM (fullF ask (K s 0)) := by cases fullF ask (K s 0) <;> rfl
  rw [names_fold (unn (atM (fullF ask (K s 0))) (K s 2)) 16 s.Refs (by have := h2.2; omega) (fun i a l nx hl => ?_)]
  · rw [plan_unn h2, Option.bind_some, if_pos rfl]
    exact strs_self [] _
  · generalize hy : fullL (fullF ask (K s 0)) = y11 at ex ⊢
    rw [← ex]
    generalize K s 2 = ps at hk
    have j2 : ∀ b, go_law11_PlanUnneeded.j2 l a nx b = nx (if b then l ++ [a.Name] else l) := by
      intro b
      unfold go_law11_PlanUnneeded.j2
      cases b with
      | true => rw [if_pos rfl, apB_ok (by simp; omega), Option.bind_some, if_pos rfl]
      | false => simp
    have j1 : ∀ b, go_law11_PlanUnneeded.j1 y11 l a nx b = nx (if (if a.Kind = 0 then decide (a.To < y11.2) else (!b && decide (a.To ≤ y11.2) && decide (a.From < y11.2))) then l ++ [a.Name] else l) := by
      intro b
      unfold go_law11_PlanUnneeded.j1
      simp only [j2]
      by_cases c1 : a.Kind = 0 <;> by_cases c2 : a.To < y11.2 <;> by_cases c3 : a.To ≤ y11.2 <;> by_cases c4 : a.From < y11.2 <;> cases b <;> simp [c1, c2, c3, c4]
    unfold go_law11_PlanUnneeded.b1 unn
    by_cases h0 : 0 < ps.length
    · obtain ⟨y, e1, e2⟩ := last_at h0 hk
      rw [if_pos (by omega), e1, Option.bind_some, j1, e2]
      simp only [Option.some.injEq]
    · rw [if_neg (by omega), j1]
      have : ps = [] := List.length_eq_zero_iff.1 (by omega)
      subst this
      simp
end Go.Proofs.Ytbinmebiknjncaa.Pl
