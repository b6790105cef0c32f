/- edits.Do beside the law's own do: a list in order beside a map. -/
import Derived.Test.YtjlhookdigbjhaaEdC
import Derived.Test.YtjlhookdigbjhaaEfE
import Derived.Test.YtjlhookdigbjhaaE7
namespace Go.Proofs.Ytjlhookdigbjhaa.Eg
open Go Go.Shelf Go.Sort Go.Proofs Go.Proofs.Ytjlhookdigbjhaa.Sx Go.Proofs.Ytjlhookdigbjhaa.E1 Go.Proofs.Ytjlhookdigbjhaa.S1 Go.Proofs.Ytjlhookdigbjhaa.E2 Go.Proofs.Ytjlhookdigbjhaa.E3 Go.Proofs.Ytjlhookdigbjhaa.E4 Go.Proofs.Ytjlhookdigbjhaa.E5 Go.Proofs.Ytjlhookdigbjhaa.E6 Go.Proofs.Ytjlhookdigbjhaa.E7 Go.Proofs.Ytjlhookdigbjhaa.Ed Go.Proofs.Ytjlhookdigbjhaa.Ef
set_option linter.unusedVariables false
set_option linter.unusedSimpArgs false
theorem lt_cb : ∀ (a b : Str), Sx.ltT a b = true ↔ Lib.compareBytes a b < 0
  | [], [] => by simp [Sx.ltT, Op.bytesLess, Lib.compareBytes]
  | [], _ :: _ => by simp [Sx.ltT, Op.bytesLess, Lib.compareBytes]
  | _ :: _, [] => by simp [Sx.ltT, Op.bytesLess, Lib.compareBytes]
  | x :: a, y :: b => by
    have ih := lt_cb a b
    unfold Sx.ltT at ih ⊢
    unfold Lib.compareBytes
    simp only [Op.bytesLess, Bool.or_eq_true, decide_eq_true_eq, Bool.and_eq_true, beq_iff_eq]
    by_cases h1 : x < y
    · simp [h1]
    · by_cases h2 : y < x
      · have hn : x ≠ y := by rintro rfl; exact UInt8.lt_irrefl _ h2
        simp [h1, h2, hn]
      · have he : x = y := by
          apply UInt8.toNat_inj.1
          rw [UInt8.lt_iff_toNat_lt] at h1 h2
          omega
        subst he
        simp [h1, ih]
theorem forN_eq {V S R : Type} {b : Str × V → S → (S → Option R) → Option R} {K : S → Option R} {n : Nat} {m : Mp V} {s : S} {o : Option R} (hne : m ≠ []) (h : ∀ a ∈ m, b a s (fun s' => forN b K n (mdel m a.1) s') = o) : forN b K (n + 1) m s = o := by
  cases o with
  | some r => exact forN_mk hne h
  | none =>
    obtain ⟨a, ha⟩ := List.exists_mem_of_ne_nil m hne
    unfold forN
    rw [dif_neg]
    rintro ⟨r, hr⟩
    have h1 := h a ha
    rw [hr a ha] at h1
    cases h1
theorem copy_loop {K : Mp apiRef → Option (Mp apiRef × Int)} : ∀ (n : Nat) (m t full : Mp apiRef), m.length = n → Srt m → Srt t → (∀ x ∈ t, ∀ y ∈ m, x.1 ≠ y.1) → Srt full → (∀ x, x ∈ full ↔ x ∈ m ∨ x ∈ t) → forN go_law10_do.b1 K n m t = K full
  | 0, m, t, full, hl, hm, ht, hd, hf, he => by
    have h0 : m = [] := List.eq_nil_of_length_eq_zero hl
    subst h0
    show K t = K full
    rw [srt_ext ht hf (fun x => by rw [he x]; simp)]
  | n + 1, m, t, full, hl, hm, ht, hd, hf, he => by
    have hne : m ≠ [] := by intro h; rw [h] at hl; simp at hl
    refine forN_eq hne (fun a ha => ?_)
    have hl2 := mdel_len hm ha
    show forN go_law10_do.b1 K n (mdel m a.1) (mput t a.1 a.2) = K full
    refine copy_loop n (mdel m a.1) (mput t a.1 a.2) full (by omega) (hm.del _) (ht.put _ _) ?_ hf ?_
    · intro x hx y hy
      have hy' := mem_mdel.1 hy
      rcases (mem_mput ht).1 hx with rfl | ⟨hx', _⟩
      · exact fun h => hy'.2 h.symm
      · exact hd x hx' y hy'.1
    · intro x
      rw [he x, mem_mdel, mem_mput ht]
      constructor
      · rintro (hx | hx)
        · by_cases hk : x.1 = a.1
          · exact .inr (.inl (hm.inj hx ha hk))
          · exact .inl ⟨hx, hk⟩
        · exact .inr (.inr ⟨hx, hd x hx a ha⟩)
      · rintro (⟨hx, _⟩ | rfl | ⟨hx, _⟩)
        · exact .inl hx
        · exact .inl ha
        · exact .inr hx
theorem copy_eq {K : Mp apiRef → Option (Mp apiRef × Int)} {m : Mp apiRef} (h : Srt m) : forN go_law10_do.b1 K m.length m [] = K m :=
  copy_loop _ m [] m rfl h Srt.nil (fun x hx => by cases hx) h (fun x => by simp)
/-- The list and the map hold the same references. -/
def Rel (l : List apiRef) (m : Mp apiRef) : Prop := Srt m ∧ Diff l ∧ ∀ x, x ∈ m ↔ ∃ r ∈ l, x = (r.Name, r)
theorem rel_nil : Rel [] [] := ⟨Srt.nil, List.Pairwise.nil, fun x => by simp⟩
theorem rel_get {l : List apiRef} {m : Mp apiRef} (h : Rel l m) (n : Str) : (mget m n).isSome = true ↔ 0 ≤ findF l n := by
  rcases findF_sign l n with hs | hs
  · have h1 := findF_neg.1 hs
    have h2 : mget m n = none := mget_none.2 (fun x hx => by
      obtain ⟨r, hr, rfl⟩ := (h.2.2 x).1 hx
      exact h1 r hr)
    rw [h2, hs]
    simp
  · have h1 : ¬ findF l n = -1 := by omega
    rw [findF_neg] at h1
    have h2 : ∃ a ∈ l, a.Name = n := by
      apply Classical.byContradiction
      intro hc
      exact h1 (fun a ha he => hc ⟨a, ha, he⟩)
    obtain ⟨a, ha, rfl⟩ := h2
    rw [(mget_some h.1).2 ((h.2.2 _).2 ⟨a, ha, rfl⟩)]
    simp [hs]
theorem findF_at {l : List apiRef} {n : Str} {k : Nat} (h : findF l n = (k : Int)) (hk : k < l.length) : l[k].Name = n := by
  unfold findF at h
  cases hf : l.findIdx? (fun a => decide (a.Name = n)) with
  | none => rw [hf] at h; simp only [] at h; omega
  | some j =>
    rw [hf] at h
    simp only [] at h
    have : j = k := by omega
    subst this
    have := (List.findIdx?_eq_some_iff_getElem.1 hf).2.1
    simpa using this
theorem rel_del {l : List apiRef} {m : Mp apiRef} (h : Rel l m) {n : Str} {k : Nat} (hk : k < l.length) (hn : l[k].Name = n) : Rel (l.take k ++ l.drop (k + 1)) (mdel m n) := by
  refine ⟨h.1.del _, pairwise_del h.2.1 k, fun x => ?_⟩
  rw [mem_mdel, h.2.2 x, ← List.eraseIdx_eq_take_drop_succ]
  constructor
  · rintro ⟨⟨r, hr, rfl⟩, hx⟩
    refine ⟨r, ?_, rfl⟩
    rw [List.mem_eraseIdx_iff_getElem]
    obtain ⟨i, hi, rfl⟩ := List.getElem_of_mem hr
    refine ⟨i, hi, ?_, rfl⟩
    rintro rfl
    exact hx hn
  · rintro ⟨r, hr, rfl⟩
    rw [List.mem_eraseIdx_iff_getElem] at hr
    obtain ⟨i, hi, hik, rfl⟩ := hr
    refine ⟨⟨_, List.getElem_mem hi, rfl⟩, ?_⟩
    have hd := List.pairwise_iff_getElem.1 h.2.1
    show l[i].Name ≠ n
    rw [← hn]
    rcases Nat.lt_or_gt_of_ne hik with hlt | hlt
    · exact hd i k hi hk hlt
    · exact fun he => hd k i hk hi hlt he.symm
theorem rel_add {l : List apiRef} {m : Mp apiRef} (h : Rel l m) {a : apiRef} (hn : ¬ 0 ≤ findF l a.Name) : Rel (l ++ [a]) (mput m a.Name a) := by
  have h1 := findF_neg.1 ((findF_sign l a.Name).resolve_right hn)
  refine ⟨h.1.put _ _, ?_, fun x => ?_⟩
  · refine List.pairwise_append.2 ⟨h.2.1, List.pairwise_singleton _ _, fun x hx y hy => ?_⟩
    rw [List.mem_singleton] at hy
    subst hy
    exact h1 x hx
  · rw [mem_mput h.1, h.2.2 x]
    constructor
    · rintro (rfl | ⟨⟨r, hr, rfl⟩, _⟩)
      · exact ⟨a, by simp, rfl⟩
      · exact ⟨r, by simp [hr], rfl⟩
    · rintro ⟨r, hr, rfl⟩
      rcases List.mem_append.1 hr with hr | hr
      · exact .inr ⟨⟨r, hr, rfl⟩, h1 r hr⟩
      · rw [List.mem_singleton] at hr
        subst hr
        exact .inl rfl
theorem rel_sort {l : List apiRef} {m : Mp apiRef} (h : Rel l m) : Rel (srtR l) m :=
  ⟨h.1, diff_perm (srt_perm l).symm h.2.1, fun x => by rw [h.2.2 x]; constructor <;> rintro ⟨r, hr, rfl⟩ <;> exact ⟨r, by first | exact (srt_perm l).mem_iff.2 hr | exact (srt_perm l).mem_iff.1 hr, rfl⟩⟩
theorem rel_map {l : List apiRef} {m : Mp apiRef} (h : Rel l m) (hu : Up l) : m = l.map fun r => (r.Name, r) := by
  refine srt_ext h.1 ?_ (fun x => ?_)
  · unfold Srt
    rw [List.pairwise_map]
    exact hu.imp fun {a b} hab => (lt_cb _ _).2 hab
  · rw [h.2.2 x, List.mem_map]
    constructor <;> rintro ⟨r, hr, h⟩ <;> exact ⟨r, hr, h.symm⟩
theorem clone_big {l : List apiRef} (h : l.length ≤ 1000000000) : go_slices_Clone_api_Ref_api_Ref l = some l := by
  unfold go_slices_Clone_api_Ref_api_Ref
  rw [apB_ok (by simp; omega)]
  rfl
theorem srt_big {l : List apiRef} (h : l.length ≤ 1000000000) : go_sortRef l = some (srtR l) := by
  unfold go_sortRef
  rw [if_pos (by omega)]
  rfl
theorem delete_big {l : List apiRef} (hl : l.length ≤ 1000000000) {k : Nat} (h : k < l.length) : go_slices_Delete_api_Ref_api_Ref l (k : Int) (wr ((k : Int) + 1)) = some (l.take k ++ l.drop (k + 1)) := by
  have hw : wr ((k : Int) + 1) = ((k + 1 : Nat) : Int) := by rw [wr_in (by omega) (by omega)]; omega
  unfold go_slices_Delete_api_Ref_api_Ref cap3
  rw [hw, cutI_ok (by omega) (by omega), Option.bind_some, if_pos (by omega), Option.bind_some, if_neg (by omega)]
  rw [show (0 : Int) = ((0 : Nat) : Int) from rfl, cutI_ok (by omega) (by omega), Option.bind_some, cutI_ok (by omega) (by omega), Option.bind_some, apB_ok (by simp; omega), Option.bind_some]
  simp
/-- Two loops over one list. -/
theorem forL_two {α S S' R R' : Type} {b : Nat → α → S → (S → Option R) → Option R} {b' : Nat → α → S' → (S' → Option R') → Option R'} {K : S → Option R} {K' : S' → Option R'} (I : List α → S → S' → Prop) (Q : Option R → Option R' → Prop) :
    ∀ (xs : List α) (i : Nat) (pre : List α) (s : S) (s' : S'), I pre s s' →
    (∀ (j : Nat) (p : List α) (a : α) (s : S) (s' : S') (nx : S → Option R) (nx' : S' → Option R'), a ∈ xs → p.length < pre.length + xs.length → I p s s' → Q (b j a s nx) (b' j a s' nx') ∨ ∃ t t', b j a s nx = nx t ∧ b' j a s' nx' = nx' t' ∧ I (p ++ [a]) t t') →
    (∀ s s', I (pre ++ xs) s s' → Q (K s) (K' s')) → Q (forL b K i xs s) (forL b' K' i xs s')
  | [], i, pre, s, s', h, _, hk => hk s s' (by simpa using h)
  | x :: xs, i, pre, s, s', h, hb, hk => by
    show Q (b i x s (fun t => forL b K (i + 1) xs t)) (b' i x s' (fun t => forL b' K' (i + 1) xs t))
    rcases hb i pre x s s' (fun t => forL b K (i + 1) xs t) (fun t => forL b' K' (i + 1) xs t) (List.mem_cons_self ..) (by simp) h with h1 | ⟨t, t', h1, h2, h3⟩
    · exact h1
    · rw [h1, h2]
      exact forL_two I Q xs (i + 1) (pre ++ [x]) t t' h3 (fun j p a s s' nx nx' ha hp hs => hb j p a s s' nx nx' (List.mem_cons_of_mem _ ha) (by simp at hp ⊢; omega) hs) (fun s s' hs => hk s s' (by simpa using hs))
/-- Both answer alike. -/
def Same (l : List apiRef) (f : Int) (e : editsEdit) (r : Option (editsSet × Int)) (r' : Option (Mp apiRef × Int)) : Prop := ∃ t c m', r = some (t, c) ∧ r' = some (m', c) ∧
  (c = 0 → Up t.Refs ∧ Rel t.Refs m' ∧ t.Floor = e.Floor ∧ t.Refs.length ≤ l.length + e.Add.length ∧ f ≤ e.Floor ∧ e.Floor ≤ 1048576 ∧ (∀ a ∈ e.Add, go_edits_May a = some true) ∧ (∀ d ∈ e.Drop, ∃ r ∈ l, r.Name = d) ∧ ∀ r ∈ t.Refs, r ∈ l ∨ r ∈ e.Add) ∧ (c ≠ 0 → t = ⟨[], 0⟩)
theorem same_bad {l : List apiRef} {f : Int} {e : editsEdit} (c : Int) (h : c ≠ 0) : Same l f e (some (⟨[], 0⟩, c)) (some ([], c)) := ⟨_, _, _, rfl, rfl, fun h0 => absurd h0 h, fun _ => rfl⟩
theorem do_do {l : List apiRef} {m : Mp apiRef} {f : Int} {e : editsEdit} (h : Rel l m) (hl : l.length + e.Add.length ≤ 1000000000) : Same l f e (go_edits_Do ⟨l, f⟩ e) (go_law10_do m f e) := by
  unfold go_edits_Do go_law10_do
  rw [clone_big (by simp only; omega), Option.bind_some, copy_eq h.1]
  unfold go_edits_Do.j1
  refine forL_two (fun p l' m' => Rel l' m' ∧ l'.length ≤ l.length ∧ (∀ d ∈ p, ∃ r ∈ l, r.Name = d) ∧ ∀ r ∈ l', r ∈ l) (Same l f e) e.Drop 0 [] l m ⟨h, Nat.le_refl _, (fun d hd => by cases hd), fun r hr => hr⟩ ?_ ?_
  · intro j p a l' m' nx nx' ha hp ⟨hr, hll, hd, hs⟩
    unfold go_edits_Do.b1 go_law10_do.b2
    have hg := rel_get hr a
    rw [find_eq, Option.bind_some]
    simp only []
    by_cases hk : findF l' a < 0
    · rw [if_pos hk, if_neg (by rw [hg]; omega)]
      exact .inl (same_bad 6 (by decide))
    · obtain ⟨k, e1, e2⟩ := findF_lt l' a hk
      have hn := findF_at e1 e2
      rw [if_neg hk, if_pos (hg.2 (by omega)), e1, delete_big (by omega) e2, Option.bind_some]
      refine .inr ⟨_, _, rfl, rfl, rel_del hr e2 hn, by simp; omega, ?_, ?_⟩
      · intro d hdm
        rcases List.mem_append.1 hdm with hdm | hdm
        · exact hd d hdm
        · rw [List.mem_singleton] at hdm
          subst hdm
          exact ⟨l'[k], hs _ (List.getElem_mem _), hn⟩
      · intro r hrm
        rcases List.mem_append.1 hrm with hrm | hrm
        · exact hs r (List.mem_of_mem_take hrm)
        · exact hs r (List.mem_of_mem_drop hrm)
  · intro l1 m1 ⟨hr1, hl1, hd1, hs1⟩
    rw [List.nil_append] at hd1
    refine forL_two (fun p l' m' => Rel l' m' ∧ l'.length ≤ l.length + p.length ∧ (∀ d ∈ p, go_edits_May d = some true) ∧ ∀ r ∈ l', r ∈ l ∨ r ∈ e.Add) (Same l f e) e.Add 0 [] l1 m1 ⟨hr1, by simp; omega, (fun d hd => by cases hd), fun r hr => .inl (hs1 r hr)⟩ ?_ ?_
    · intro j p a l' m' nx nx' ha hp ⟨hr, hll, hd, hs⟩
      unfold go_edits_Do.b2 go_law10_do.b3
      obtain ⟨b, hb⟩ := may_ok a
      rw [← may_eq, hb, Option.bind_some, Option.bind_some]
      simp at hp
      cases b with
      | false => exact .inl (same_bad 14 (by decide))
      | true =>
        have hg := rel_get hr a.Name
        rw [if_pos rfl, if_pos rfl, find_eq, Option.bind_some]
        simp only []
        by_cases hk : 0 ≤ findF l' a.Name
        · rw [if_pos hk, if_pos (hg.2 hk)]
          exact .inl (same_bad 5 (by decide))
        · rw [if_neg hk, if_neg (by rw [hg]; exact hk), apB_ok (by simp; omega), Option.bind_some]
          refine .inr ⟨_, _, rfl, rfl, rel_add hr hk, by simp; omega, ?_, ?_⟩
          · intro d hdm
            rcases List.mem_append.1 hdm with hdm | hdm
            · exact hd d hdm
            · rw [List.mem_singleton] at hdm
              subst hdm
              exact hb
          · intro r hrm
            rcases List.mem_append.1 hrm with hrm | hrm
            · exact hs r hrm
            · rw [List.mem_singleton] at hrm
              subst hrm
              exact .inr ha
    · intro l2 m2 ⟨hr2, hl2, hd2, hs2⟩
      rw [List.nil_append] at hd2 hl2
      simp only []
      by_cases h1 : e.Floor < f
      · rw [if_pos h1, if_pos h1]
        exact same_bad 8 (by decide)
      · by_cases h2 : 1048576 < e.Floor
        · rw [if_neg h1, if_pos h2, if_neg h1, if_pos h2]
          exact same_bad 8 (by decide)
        · rw [if_neg h1, if_neg h2, if_neg h1, if_neg h2, srt_big (by omega), Option.bind_some]
          refine ⟨_, _, _, rfl, rfl, fun _ => ⟨srt_up hr2.2.1, rel_sort hr2, rfl, ?_, by omega, by omega, hd2, hd1, ?_⟩, fun h => absurd rfl h⟩
          · show (srtR l2).length ≤ _
            rw [srt_len]
            exact hl2
          · intro r hr
            exact hs2 r ((srt_perm l2).mem_iff.1 hr)
/-- The law's look at both. -/
theorem shows_ok {l : List apiRef} {m : Mp apiRef} {f : Int} (h : Rel l m) (hu : Up l) (hl : l.length ≤ 1000000000) : go_law10_Shows ⟨l, f⟩ m f = some true := by
  unfold go_law10_Shows
  have hm := rel_map h hu
  have hlen : (l.length : Int) = (m.length : Int) := by rw [hm, List.length_map]
  have hb : ∀ (j : Nat) (a : apiRef) (nx : Unit → Option Bool) (hj : j < l.length), a = l[j] → go_law10_Shows.b1 ⟨l, f⟩ m j a () nx = nx () := by
    intro j a nx hj ha
    subst ha
    unfold go_law10_Shows.b1
    have hg := (mget_some h.1).2 ((h.2.2 (l[j].Name, l[j])).2 ⟨l[j], List.getElem_mem _, rfl⟩)
    simp only []
    rw [hg]
    simp only [Option.isSome_some, Option.getD_some, if_true]
    by_cases h0 : 0 < (j : Int)
    · rw [if_pos h0]
      have hw : wr ((j : Int) - 1) = ((j - 1 : Nat) : Int) := by rw [wr_in (by omega) (by omega)]; omega
      rw [hw, at_ok (show j - 1 < l.length by omega), Option.bind_some]
      have hp := List.pairwise_iff_getElem.1 hu (j - 1) j (by omega) hj (by omega)
      rw [(lt_cb _ _).2 hp]
      rfl
    · rw [if_neg h0]
  have hloop : ∀ (xs pre : List apiRef) (K : Unit → Option Bool), pre ++ xs = l → forL (go_law10_Shows.b1 ⟨l, f⟩ m) K pre.length xs () = K () := by
    intro xs
    induction xs with
    | nil => intro pre K _; rfl
    | cons x xs ih =>
      intro pre K hpx
      have hlp : pre.length < l.length := by rw [← hpx]; simp
      show go_law10_Shows.b1 ⟨l, f⟩ m pre.length x () (fun s' => forL (go_law10_Shows.b1 ⟨l, f⟩ m) K (pre.length + 1) xs s') = K ()
      rw [hb _ _ _ hlp (by simp [← hpx])]
      have := ih (pre ++ [x]) K (by simpa using hpx)
      simpa using this
  have := hloop l [] (fun _ => if (l.length : Int) = (m.length : Int) then (some (decide (f = f))) else (some false)) rfl
  rw [List.length_nil] at this
  rw [this, if_pos hlen]
  simp
end Go.Proofs.Ytjlhookdigbjhaa.Eg
