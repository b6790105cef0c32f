/- The plan package's plain law, its first part: the sorted references of a kind, as the program's two roads compute them. -/
import Derived.Test.YtbinmebiknjncaaP2
namespace Go.Proofs.Ytbinmebiknjncaa.Pl
open Go Go.Proofs.Ytbinmebiknjncaa.Sx Go.Proofs.Ytbinmebiknjncaa.P1 Go.Proofs.Ytbinmebiknjncaa.P2
set_option linter.unusedVariables false
set_option linter.unusedSimpArgs false
theorem wr_id {x : Int} (h : -1000000 ≤ x) (h' : x ≤ 1000000) : wr x = x := by
  simp only [wr, IntKind.wrap, IntKind.bits, IntKind.signed, Bool.true_and, decide_eq_true_eq, show (2 : Int) ^ 64 = 18446744073709551616 from rfl, show (2 : Int) ^ (64 - 1) = 9223372036854775808 from rfl]
  split <;> omega
/-- A small reference. -/
def Ok (a : apiRef) : Prop := 0 ≤ a.From ∧ a.From ≤ a.To ∧ a.To ≤ 1000 ∧ (a.Kind = 0 → a.From = a.To)
def Oks (xs : List apiRef) : Prop := (∀ a ∈ xs, Ok a) ∧ xs.length ≤ 19
def lt (a b : apiRef) : Bool := decide (a.From < b.From ∨ a.From = b.From ∧ a.To < b.To)
def insB (a : apiRef) : List apiRef → List apiRef
  | [] => [a]
  | y :: ys => if lt a y then y :: insB a ys else a :: y :: ys
def ins (xs : List apiRef) (a : apiRef) : List apiRef := (insB a xs.reverse).reverse
def srt (xs : List apiRef) : List apiRef := xs.foldl ins []
def K (s : editsSet) (k : Int) : List apiRef := srt (s.Refs.filter fun a => decide (a.Kind = k))
theorem insB_len (a : apiRef) : ∀ xs, (insB a xs).length = xs.length + 1
  | [] => rfl
  | y :: ys => by
    unfold insB
    split
    · simp [insB_len a ys]
    · simp
theorem ins_len (xs : List apiRef) (a : apiRef) : (ins xs a).length = xs.length + 1 := by simp [ins, insB_len]
theorem insB_perm (a : apiRef) : ∀ xs, (insB a xs).Perm (a :: xs)
  | [] => List.Perm.refl _
  | y :: ys => by
    unfold insB
    split
    · exact ((insB_perm a ys).cons y).trans (List.Perm.swap _ _ _)
    · exact List.Perm.refl _
theorem ins_perm (xs : List apiRef) (a : apiRef) : (ins xs a).Perm (a :: xs) :=
  (List.reverse_perm _).trans ((insB_perm a _).trans ((List.reverse_perm _).cons a))
theorem srt_perm' : ∀ (xs l : List apiRef), (xs.foldl ins l).Perm (l ++ xs)
  | [], l => by simp
  | x :: xs, l => by
    rw [List.foldl_cons]
    refine (srt_perm' xs _).trans (((ins_perm l x).append_right xs).trans ?_)
    exact List.perm_middle.symm
theorem srt_perm (xs : List apiRef) : (srt xs).Perm xs := by have h := srt_perm' xs []; rw [List.nil_append] at h; exact h
theorem cmp_lt {a b : apiRef} (ha : Ok a) (hb : Ok b) : ∃ r, go_plan_kind_c1 a b = some r ∧ (r < 0 ↔ lt a b = true) := by
  obtain ⟨h1, h2, h3, _⟩ := ha
  obtain ⟨g1, g2, g3, _⟩ := hb
  unfold go_plan_kind_c1
  split
  · exact ⟨_, rfl, by rw [wr_id (by omega) (by omega)]; simp [lt]; omega⟩
  · exact ⟨_, rfl, by rw [wr_id (by omega) (by omega)]; simp [lt]; omega⟩
theorem atI_ok {α : Type} {xs : List α} {i : Nat} {x : α} (h : xs[i]? = some x) : atI xs (i : Int) = some x := by
  unfold atI
  rw [if_pos (by omega)]
  simpa using h
theorem putI_ok {α : Type} {xs : List α} {i : Nat} {x : α} (h : i < xs.length) : putI xs (i : Int) x = some (xs.set i x) := by
  unfold putI
  rw [if_pos (by omega)]
  simp
theorem apB_ok {α : Type} {b : Nat} {xs ys : List α} (h : (xs.length + ys.length) * b ≤ 140737488355328) : apB b xs ys = some (xs ++ ys) := by
  unfold apB
  rw [if_pos h]
theorem cutI_ok {α : Type} {xs : List α} {i j : Nat} (h : i ≤ j) (h' : j ≤ xs.length) : cutI xs (i : Int) (j : Int) = some ((xs.take j).drop i) := by
  unfold cutI
  rw [if_pos (by omega)]
  simp
/-- The insertion's inner loop. -/
theorem inner (p2 : Int) (i : Nat) (hi : i ≤ 1000) (nx : (List apiRef × Int) → Option (List apiRef)) : ∀ (rev post : List apiRef) (a : apiRef) (m : Nat), Ok a → (∀ x ∈ rev, Ok x) → rev.length ≤ 1000 → rev.length < m →
    loopF (go_slices_insertionSortCmpFunc_api_Ref_plan_kind_c1.b2 0 (i : Int) nx) m (rev.reverse ++ a :: post, (rev.length : Int)) = nx ((insB a rev).reverse ++ post, ((i + 1 : Nat) : Int))
  | rev, post, a, 0, _, _, _, h => by omega
  | [], post, a, m + 1, ha, _, _, h => by
    show (go_slices_insertionSortCmpFunc_api_Ref_plan_kind_c1.b2 0 (i : Int) nx _ _) = _
    unfold go_slices_insertionSortCmpFunc_api_Ref_plan_kind_c1.b2
    simp [insB, wr_id (x := (i : Int) + 1) (by omega) (by omega)]
  | y :: ys, post, a, m + 1, ha, hr, hl, h => by
    show (go_slices_insertionSortCmpFunc_api_Ref_plan_kind_c1.b2 0 (i : Int) nx _ _) = _
    unfold go_slices_insertionSortCmpFunc_api_Ref_plan_kind_c1.b2
    simp only [List.length_cons] at hl h ⊢
    have e1 : wr (((ys.length + 1 : Nat) : Int) - 1) = ((ys.length : Nat) : Int) := by rw [wr_id (by omega) (by omega)]; omega
    have ea : ((y :: ys).reverse ++ a :: post)[ys.length + 1]? = some a := by
      rw [List.getElem?_append_right (by simp)]
      simp
    have ey : ((y :: ys).reverse ++ a :: post)[ys.length]? = some y := by
      rw [List.getElem?_append_left (by simp)]
      simp
    rw [if_pos (by omega), atI_ok ea, Option.bind_some, e1, atI_ok ey, Option.bind_some]
    obtain ⟨r, e2, e3⟩ := cmp_lt ha (hr y (List.mem_cons_self ..))
    rw [e2, Option.bind_some]
    by_cases hc : lt a y = true
    · rw [if_pos (e3.2 hc), putI_ok (by simp), Option.bind_some]
      have e4 : ((y :: ys).reverse ++ a :: post).set (ys.length + 1) y = ys.reverse ++ y :: y :: post := by
        rw [List.set_append_right _ _ (by simp)]
        simp
      rw [e4]
      have e5 : (ys.reverse ++ y :: y :: post)[ys.length]? = some y := by
        rw [List.getElem?_append_right (by simp)]; simp
      rw [atI_ok e5, Option.bind_some, putI_ok (by simp), Option.bind_some]
      have e6 : (ys.reverse ++ y :: y :: post).set ys.length a = ys.reverse ++ a :: (y :: post) := by
        rw [List.set_append_right _ _ (by simp)]
        simp
      rw [e6]
      refine (inner p2 i hi nx ys (y :: post) a m ha (fun x hx => hr x (List.mem_cons_of_mem _ hx)) (by omega) (by omega)).trans ?_
      congr 2
      simp [insB, hc]
    · rw [if_neg (fun h => hc (e3.1 h))]
      rw [wr_id (x := (i : Int) + 1) (by omega) (by omega)]
      congr 2
      simp [insB, hc]
theorem mem_foldl {xs l : List apiRef} {x : apiRef} (h : x ∈ xs.foldl ins l) : x ∈ l ∨ x ∈ xs := by
  have := (srt_perm' xs l).mem_iff.1 h
  simpa using this
/-- .. and its outer loop. -/
theorem outer : ∀ (rest done : List apiRef) (m : Nat), 0 < done.length → (∀ x ∈ done, Ok x) → (∀ x ∈ rest, Ok x) → done.length + rest.length ≤ 1000 → rest.length < m →
    loopF (go_slices_insertionSortCmpFunc_api_Ref_plan_kind_c1.b1 0 ((done.length + rest.length : Nat) : Int)) m (done ++ rest, (done.length : Int)) = some (rest.foldl ins done)
  | rest, done, 0, _, _, _, _, h => by omega
  | [], done, m + 1, h0, hd, hr, hl, h => by
    show (go_slices_insertionSortCmpFunc_api_Ref_plan_kind_c1.b1 0 _ _ _) = _
    unfold go_slices_insertionSortCmpFunc_api_Ref_plan_kind_c1.b1
    simp
  | a :: rest, done, m + 1, h0, hd, hr, hl, h => by
    show (go_slices_insertionSortCmpFunc_api_Ref_plan_kind_c1.b1 0 _ _ _) = _
    unfold go_slices_insertionSortCmpFunc_api_Ref_plan_kind_c1.b1
    simp only [List.length_cons] at hl h ⊢
    rw [if_pos (by omega)]
    have e := inner 0 done.length (by omega) (loopF (fun (l282, x283) nxb4 => if x283 < ((done.length + (rest.length + 1) : Nat) : Int) then (loopF (go_slices_insertionSortCmpFunc_api_Ref_plan_kind_c1.b2 0 x283 nxb4) fuel (l282, x283)) else (some l282)) m) done.reverse rest a fuel (hr a (List.mem_cons_self ..)) (fun x hx => hd x (by simpa using hx)) (by simp; omega) (by rw [fuel_eq]; simp; omega)
    rw [List.reverse_reverse, List.length_reverse] at e
    refine e.trans ?_
    have := outer rest (ins done a) m (by rw [ins_len]; omega) (fun x hx => ?_) (fun x hx => hr x (List.mem_cons_of_mem _ hx)) (by rw [ins_len]; omega) (by omega)
    · rw [ins_len] at this
      rw [List.foldl_cons, ← this]
      rw [show done.length + (rest.length + 1) = done.length + 1 + rest.length by omega]
      rfl
    · rcases List.mem_cons.1 ((ins_perm done a).mem_iff.1 hx) with rfl | h
      · exact hr _ (List.mem_cons_self ..)
      · exact hd x h
theorem insertion {xs : List apiRef} (h : Oks xs) : go_slices_insertionSortCmpFunc_api_Ref_plan_kind_c1 xs 0 (xs.length : Int) = some (srt xs) := by
  unfold go_slices_insertionSortCmpFunc_api_Ref_plan_kind_c1
  cases xs with
  | nil => rw [fuel_eq]; rfl
  | cons a rest =>
    have := outer rest [a] fuel (by simp) (fun x hx => h.1 x (by simp at hx; simp [hx])) (fun x hx => h.1 x (List.mem_cons_of_mem _ hx)) (by have := h.2; simp at this ⊢; omega) (by rw [fuel_eq]; have := h.2; simp at this; omega)
    rw [show wr (0 + 1) = ((([a] : List apiRef).length : Nat) : Int) from rfl]
    rw [show (((a :: rest).length : Nat) : Int) = ((([a] : List apiRef).length + rest.length : Nat) : Int) by simp; omega]
    exact this
theorem stable {xs : List apiRef} (h : Oks xs) : go_slices_SortStableFunc_api_Ref_api_Ref_plan_kind_c1 xs = some (srt xs) := by
  unfold go_slices_SortStableFunc_api_Ref_api_Ref_plan_kind_c1
  have : go_slices_stableCmpFunc_api_Ref_plan_kind_c1 xs (xs.length : Int) = some (srt xs) := by
    unfold go_slices_stableCmpFunc_api_Ref_plan_kind_c1
    rw [fuel_eq]
    show (go_slices_stableCmpFunc_api_Ref_plan_kind_c1.b1 _ _ _) = _
    unfold go_slices_stableCmpFunc_api_Ref_plan_kind_c1.b1
    have := h.2
    simp only []
    rw [if_neg (by omega), insertion h, Option.bind_some, fuel_eq]
    show (go_slices_stableCmpFunc_api_Ref_plan_kind_c1.b2 _ _ _ _) = _
    unfold go_slices_stableCmpFunc_api_Ref_plan_kind_c1.b2
    rw [if_neg (by omega)]
  rw [this]
  rfl
/-- A loop whose body goes on, at a state that keeps to a bound. -/
theorem forL_go {α S R : Type} {body : Nat → α → S → (S → Option R) → Option R} {k : S → Option R} (g : Nat → S → α → S) (I : Nat → S → Prop) : ∀ (xs : List α) (i : Nat) (s : S), I i s → (∀ (j : Nat) (a : α) (s : S) (nx : S → Option R), i ≤ j → a ∈ xs → xs[j - i]? = some a → I j s → body j a s nx = nx (g j s a) ∧ I (j + 1) (g j s a)) →
    forL body k i xs s = k ((xs.foldl (fun (p : Nat × S) a => (p.1 + 1, g p.1 p.2 a)) (i, s)).2)
  | [], i, s, _, _ => rfl
  | x :: xs, i, s, hI, h => by
    show body i x s (fun s' => forL body k (i + 1) xs s') = _
    obtain ⟨h1, h2⟩ := h i x s (fun s' => forL body k (i + 1) xs s') (Nat.le_refl _) (List.mem_cons_self ..) (by simp) hI
    rw [h1]
    refine (forL_go g I xs (i + 1) _ h2 (fun j a s nx hj ha he hs => h j a s nx (by omega) (List.mem_cons_of_mem _ ha) ?_ hs)).trans rfl
    rw [show j - i = (j - (i + 1)) + 1 by omega]
    simpa using he
/-- .. of a state that needs none of the index. -/
theorem forL_fold {α S R : Type} {body : Nat → α → S → (S → Option R) → Option R} {k : S → Option R} (g : S → α → S) (I : Nat → S → Prop) (xs : List α) (i : Nat) (s : S) (hI : I i s) (h : ∀ (j : Nat) (a : α) (s : S) (nx : S → Option R), i ≤ j → j < i + xs.length → a ∈ xs → I j s → body j a s nx = nx (g s a) ∧ I (j + 1) (g s a)) :
    forL body k i xs s = k (xs.foldl g s) := by
  rw [forL_go (fun _ => g) I xs i s hI (fun j a s nx hj ha he => h j a s nx hj (by
    rcases Nat.lt_or_ge (j - i) xs.length with h' | h'
    · omega
    · rw [List.getElem?_eq_none h'] at he; cases he) ha)]
  congr 1
  clear hI h
  induction xs generalizing i s with
  | nil => rfl
  | cons x xs ih => exact ih (i + 1) (g s x)
theorem foldl_filter' {α : Type} (p : α → Bool) : ∀ (xs l : List α), xs.foldl (fun l a => if p a then l ++ [a] else l) l = l ++ xs.filter p
  | [], l => by simp
  | x :: xs, l => by
    rw [List.foldl_cons, foldl_filter' p xs]
    by_cases h : p x <;> simp [h]
theorem Oks.filter {xs : List apiRef} (h : Oks xs) (p : apiRef → Bool) : Oks (xs.filter p) := ⟨fun a ha => h.1 a (List.mem_filter.1 ha).1, Nat.le_trans (List.length_filter_le _ _) h.2⟩
theorem kind_eq {s : editsSet} (h : Oks s.Refs) (k : Int) : go_plan_kind s k = some (K s k) := by
  unfold go_plan_kind
  rw [forL_fold (fun l a => if decide (a.Kind = k) then l ++ [a] else l) (fun j l => l.length ≤ j) _ _ _ (by simp) ?_]
  · rw [foldl_filter', List.nil_append, stable (h.filter _)]
    rfl
  · intro j a l nx _ hj ha hl
    have := h.2
    unfold go_plan_kind.b1
    by_cases hk : a.Kind = k
    · rw [if_pos hk, apB_ok (by simp; omega)]
      simp [hk]; omega
    · rw [if_neg hk]
      simp [hk]; omega
/-- The law's own sort. -/
theorem of_inner (l : List apiRef) (hl : l.length ≤ 1000) (a : apiRef) (nx : List apiRef → Option (List apiRef)) : ∀ (rev post : List apiRef) (m : Nat), l = rev.reverse ++ post → rev.length < m →
    loopF (go_law11_of.b2 l a nx) m (rev.length : Int) = nx ((insB a rev).reverse ++ post)
  | rev, post, 0, _, h => by omega
  | [], post, m + 1, e, h => by
    subst e
    show (go_law11_of.b2 _ a nx _ _) = _
    unfold go_law11_of.b2
    simp only [List.length_nil, List.reverse_nil, List.nil_append] at *
    rw [if_neg (by simp), show (((0 : Nat) : Int)) = 0 from rfl]
    have c1 : cutI l 0 0 = some [] := cutI_ok (i := 0) (j := 0) (by omega) (by omega)
    have c2 : cutI l 0 (l.length : Int) = some l := by rw [show (0 : Int) = ((0 : Nat) : Int) from rfl, cutI_ok (by omega) (by omega)]; simp
    rw [c1, Option.bind_some, c2, Option.bind_some, apB_ok (by simp), Option.bind_some, apB_ok (by simp), Option.bind_some, apB_ok (by simp; omega), Option.bind_some]
    simp [go_law11_of.j3, insB]
  | y :: ys, post, m + 1, e, h => by
    subst e
    show (go_law11_of.b2 _ a nx _ _) = _
    unfold go_law11_of.b2
    simp only [List.length_cons] at h ⊢
    have e1 : wr (((ys.length + 1 : Nat) : Int) - 1) = ((ys.length : Nat) : Int) := by
      simp at hl
      rw [wr_id (by omega) (by omega)]; omega
    have ey : ((y :: ys).reverse ++ post)[ys.length]? = some y := by
      rw [List.getElem?_append_left (by simp)]
      simp
    have hstop : ((cutI ((y :: ys).reverse ++ post) 0 ((ys.length + 1 : Nat) : Int)).bind fun l1065 => (cutI ((y :: ys).reverse ++ post) ((ys.length + 1 : Nat) : Int) (((y :: ys).reverse ++ post).length : Int)).bind fun l1066 => (apB 40 [] l1065).bind fun l1067 => (apB 40 l1067 [a]).bind fun l1071 => (apB 40 l1071 l1066).bind fun l1072 => nx l1072) = nx ((a :: y :: ys).reverse ++ post) := by
      simp at hl
      rw [show (0 : Int) = ((0 : Nat) : Int) from rfl, cutI_ok (by omega) (by simp), Option.bind_some, cutI_ok (by simp) (by omega), Option.bind_some, apB_ok (by simp; omega), Option.bind_some, apB_ok (by simp; omega), Option.bind_some, apB_ok (by simp; omega), Option.bind_some]
      congr 1
      rw [List.take_append_of_le_length (by simp), List.take_of_length_le (by simp)]
      have e9 : List.drop (ys.length + 1) (ys.reverse ++ y :: post) = post := by rw [List.drop_append]; simp
      simp [List.take_of_length_le, e9]
    rw [if_pos (by omega), e1, atI_ok ey, Option.bind_some]
    have go := of_inner ((y :: ys).reverse ++ post) hl a nx ys (y :: post) m (by simp) (by omega)
    by_cases h1 : a.From < y.From
    · rw [if_pos h1]
      refine go.trans ?_
      simp [insB, lt, h1]
    · rw [if_neg h1]
      by_cases h2 : y.From = a.From
      · rw [if_pos h2]
        by_cases h3 : a.To < y.To
        · rw [if_pos h3]
          refine go.trans ?_
          simp [insB, lt, h2, h3]
        · rw [if_neg h3]
          unfold go_law11_of.j1
          rw [hstop]
          simp [insB, lt, h2, h3]
      · rw [if_neg h2]
        unfold go_law11_of.j2
        rw [hstop]
        have : ¬ a.From = y.From := fun h => h2 h.symm
        simp [insB, lt, h1, this]
theorem foldl_filter_ins (p : apiRef → Bool) : ∀ (xs l : List apiRef), xs.foldl (fun l a => if p a then ins l a else l) l = (xs.filter p).foldl ins l
  | [], l => rfl
  | x :: xs, l => by
    rw [List.foldl_cons, foldl_filter_ins p xs]
    by_cases h : p x <;> simp [h]
theorem of_eq {s : editsSet} (h : Oks s.Refs) (k : Int) : go_law11_of s k = some (K s k) := by
  unfold go_law11_of
  rw [forL_fold (fun l a => if decide (a.Kind = k) then ins l a else l) (fun j l => l.length ≤ j) _ _ _ (by simp) ?_]
  · rw [foldl_filter_ins]
    rfl
  · intro j a l nx _ hj ha hl
    have := h.2
    unfold go_law11_of.b1
    by_cases hk : a.Kind = k
    · rw [if_pos hk]
      have e := of_inner l (by omega) a nx l.reverse [] fuel (by simp) (by rw [fuel_eq]; simp; omega)
      rw [List.length_reverse] at e
      rw [e]
      simp [hk, ins_len, ins]
      simp [insB_len]; omega
    · rw [if_neg hk]
      simp [hk]; omega
theorem K_mem {s : editsSet} {k : Int} {a : apiRef} : a ∈ K s k ↔ a ∈ s.Refs ∧ a.Kind = k := by
  rw [K, (srt_perm _).mem_iff]
  simp
theorem K_len {s : editsSet} {k : Int} : (K s k).length ≤ s.Refs.length := by
  rw [K, (srt_perm _).length_eq]
  exact List.length_filter_le _ _
end Go.Proofs.Ytbinmebiknjncaa.Pl
