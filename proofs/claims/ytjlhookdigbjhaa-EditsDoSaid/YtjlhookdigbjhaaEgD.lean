/- EditsDo, in plain words. -/
import Derived.Test.YtjlhookdigbjhaaEgA
import Derived.Test.YtjlhookdigbjhaaEgB
import Derived.Test.YtjlhookdigbjhaaEA
namespace Go.Proofs.Ytjlhookdigbjhaa.Eg
open Go Go.Proofs Go.Proofs.Ytjlhookdigbjhaa.Sx Go.Proofs.Ytjlhookdigbjhaa.E1 Go.Proofs.Ytjlhookdigbjhaa.S1 Go.Proofs.Ytjlhookdigbjhaa.E2 Go.Proofs.Ytjlhookdigbjhaa.E3 Go.Proofs.Ytjlhookdigbjhaa.E4 Go.Proofs.Ytjlhookdigbjhaa.E5 Go.Proofs.Ytjlhookdigbjhaa.E6 Go.Proofs.Ytjlhookdigbjhaa.E7 Go.Proofs.Ytjlhookdigbjhaa.E8 Go.Proofs.Ytjlhookdigbjhaa.E9 Go.Proofs.Ytjlhookdigbjhaa.EA Go.Proofs.Ytjlhookdigbjhaa.Ed Go.Proofs.Ytjlhookdigbjhaa.Ef
set_option linter.unusedVariables false
set_option linter.unusedSimpArgs false
theorem edit_dims (p : law10Step) : ∃ e, go_law10_Step_Edit p = some e ∧ e.Add.length ≤ 5 ∧ e.Drop.length ≤ 4 ∧ 0 ≤ e.Floor := by
  unfold go_law10_Step_Edit
  have c1 : ∀ xs : List UInt8, cutI xs 0 (min (xs.length : Int) 4) = some (xs.take (min xs.length 4)) := fun xs => cut_min xs 4
  rw [c1, Option.bind_some]
  refine forL_or (fun (j : Nat) (l : List apiRef) => l.length ≤ j) (fun (r : Option editsEdit) => ∃ e, r = some e ∧ e.Add.length ≤ 5 ∧ e.Drop.length ≤ 4 ∧ 0 ≤ e.Floor) _ _ _ (Nat.le_refl _) ?_ ?_
  · intro j a l nx _ hj ha hl
    refine .inr ?_
    have h4 : j < 4 := by simp at hj; omega
    obtain ⟨s, hs⟩ := name_ok a
    unfold go_law10_Step_Edit.b1 go_law10_Step_Edit.j1
    rw [hs, Option.bind_some]
    split
    · rw [apB_ok (by simp; omega), Option.bind_some]
      exact ⟨_, rfl, by simp; omega⟩
    · rw [apB_ok (by simp; omega), Option.bind_some]
      exact ⟨_, rfl, by simp; omega⟩
  · intro l hl
    have hl4 : l.length ≤ 4 := by simp at hl; omega
    rw [c1, Option.bind_some]
    refine forL_or (fun (j : Nat) (l : List Str) => l.length ≤ j) (fun (r : Option editsEdit) => ∃ e, r = some e ∧ e.Add.length ≤ 5 ∧ e.Drop.length ≤ 4 ∧ 0 ≤ e.Floor) _ _ _ (Nat.le_refl _) ?_ ?_
    · intro j a l nx _ hj ha hl
      refine .inr ?_
      have h4 : j < 4 := by simp at hj; omega
      obtain ⟨s, hs⟩ := name_ok a
      unfold go_law10_Step_Edit.b2
      rw [hs, Option.bind_some, apB_ok (by simp; omega), Option.bind_some]
      exact ⟨_, rfl, by simp; omega⟩
    · intro l2 hl2
      have hl5 : l2.length ≤ 4 := by simp at hl2; omega
      split
      · rw [apB_ok (by simp; omega), Option.bind_some]
        exact ⟨_, rfl, by simp; omega, hl5, by simp only []; omega⟩
      · exact ⟨_, rfl, by simp only []; omega, hl5, by simp only []; omega⟩
theorem may_lims {r : apiRef} (h : go_edits_May r = some true) : r.Name.length ≤ 16 ∧ 0 ≤ r.Kind ∧ r.Kind < 3 ∧ 0 ≤ r.From ∧ r.From ≤ 1048576 ∧ 0 ≤ r.To ∧ r.To ≤ 1048576 := by
  unfold go_edits_May at h
  repeat' split at h
  all_goals first | (cases h; done) | (simp only [Option.some.injEq, decide_eq_true_eq] at h; omega) | omega
theorem norm_id {r : apiRef} (h : go_edits_May r = some true) : norm r = r := by
  obtain ⟨_, h1, h2, h3, h4, h5, h6⟩ := may_lims h
  unfold norm
  rw [toU8_nat, wr_in (by omega) (by omega), wr_in (by omega) (by omega), Int.emod_eq_of_lt (by omega) (by omega)]
theorem map_norm : ∀ {l : List apiRef}, (∀ r ∈ l, go_edits_May r = some true) → l.map norm = l
  | [], _ => rfl
  | r :: l, h => by rw [List.map_cons, norm_id (h r (List.mem_cons_self ..)), map_norm (fun r hr => h r (List.mem_cons_of_mem _ hr))]
/-- What the edits taken so far made. -/
inductive Ran : List editsEdit → editsSet → Prop
  | nil : Ran [] ⟨[], 0⟩
  | snoc {es s e t} : Ran es s → go_edits_Do s e = some (t, 0) → Ran (es ++ [e]) t
theorem forL_append {α S R : Type} {b : Nat → α → S → (S → Option R) → Option R} {K : S → Option R} : ∀ (xs ys : List α) (i : Nat) (s : S), forL b K i (xs ++ ys) s = forL b (fun s' => forL b K (i + xs.length) ys s') i xs s
  | [], ys, i, s => rfl
  | x :: xs, ys, i, s => by
    show b i x s (fun s' => forL b K (i + 1) (xs ++ ys) s') = b i x s (fun s' => forL b _ (i + 1) xs s')
    congr 1
    funext s'
    rw [forL_append xs ys (i + 1) s']
    have e : i + 1 + xs.length = i + (x :: xs).length := by rw [List.length_cons]; omega
    rw [e]
theorem replay_ran {es : List editsEdit} {s : editsSet} (h : Ran es s) : (∀ e ∈ es, go_edits_Read (editB e) = some (e, true)) → ∀ K, forL go_edits_Replay.b1 K 0 (es.map editB) ([], 0) = K (s.Refs, s.Floor) := by
  induction h with
  | nil => intro _ K; rfl
  | @snoc es s e t hr hd ih =>
    intro hx K
    rw [List.map_append, forL_append, ih (fun e he => hx e (List.mem_append_left _ he))]
    show go_edits_Replay.b1 _ (editB e) (s.Refs, s.Floor) K = _
    unfold go_edits_Replay.b1
    simp only []
    rw [hx e (by simp), Option.bind_some]
    simp only [if_true]
    have hd' : go_edits_Do ⟨s.Refs, s.Floor⟩ e = some (t, 0) := hd
    rw [hd', Option.bind_some]
    simp
theorem names_loop {nxb7 : Mp apiRef × List UInt8 × List apiRef × Int → Option Bool} {t : editsSet} {m : Mp apiRef} {c : Int} {bb : List UInt8} (h : Rel t.Refs m) (hl : t.Refs.length ≤ 1000000000) : ∀ (k n : Nat) (x : UInt8), k ≤ 8 → x.toNat + k = 8 → loopF (go_law10_EditsDo.b2 nxb7 (t, c) (m, c) bb) (n + k + 1) x = nxb7 (m, bb, t.Refs, t.Floor)
  | 0, n, x, hk, hx => by
    rw [Nat.add_zero, loopF_succ]
    unfold go_law10_EditsDo.b2
    rw [if_neg (by rw [UInt8.lt_iff_toNat_lt]; simp; omega)]
  | k + 1, n, x, hk, hx => by
    rw [show n + (k + 1) + 1 = (n + k + 1) + 1 by omega, loopF_succ]
    obtain ⟨s, hs⟩ := name_ok x
    have hn : loopF (go_law10_EditsDo.b2 nxb7 (t, c) (m, c) bb) (n + k + 1) (x + 1) = nxb7 (m, bb, t.Refs, t.Floor) := by
      refine names_loop h hl k n (x + 1) (by omega) ?_
      rw [UInt8.toNat_add]
      simp
      omega
    have hlt : x < 8 := by rw [UInt8.lt_iff_toNat_lt]; simp; omega
    have hg := rel_get h s
    generalize loopF (go_law10_EditsDo.b2 nxb7 (t, c) (m, c) bb) (n + k + 1) = L at hn ⊢
    unfold go_law10_EditsDo.b2
    simp only []
    rw [if_pos hlt, hs, Option.bind_some, find_eq, Option.bind_some, Option.bind_some]
    have hdec : (mget m s).isSome = decide (0 ≤ findF t.Refs s) := by
      by_cases h0 : 0 ≤ findF t.Refs s
      · rw [hg.2 h0, decide_eq_true h0]
      · rw [decide_eq_false h0]
        cases hm : (mget m s).isSome with
        | false => rfl
        | true => exact absurd (hg.1 hm) h0
    rw [if_pos hdec]
    by_cases h0 : 0 ≤ findF t.Refs s
    · obtain ⟨j, e1, e2⟩ := findF_lt t.Refs s (by omega)
      have hnm := findF_at e1 e2
      rw [hg.2 h0, e1, if_pos rfl, at_ok e2, Option.bind_some, Option.bind_some, if_pos hnm, if_pos rfl, hn]
    · have hm : ¬ (mget m s).isSome = true := fun hc => h0 (hg.1 hc)
      rw [if_neg hm, if_neg hm, if_pos ((findF_sign _ _).resolve_right h0), hn]
theorem frames_le {es : List editsEdit} (h : ∀ e ∈ es, (editB e).length ≤ 400) (hn : es.length ≤ 40) : ((es.map editB).flatMap mkF).length ≤ 16360 := by
  have h1 := flat_le mkF 409 (es.map editB) (fun x hx => by
    rw [List.mem_map] at hx
    obtain ⟨e, he, rfl⟩ := hx
    have h2 := h e he
    rw [mkF_len]
    omega)
  rw [List.length_map] at h1
  have h6 : es.length * 409 ≤ 40 * 409 := Nat.mul_le_mul_right _ hn
  omega
theorem editsDo (p0 : List law10Step) : go_law10_EditsDo p0 = some true := by
  unfold go_law10_EditsDo
  rw [awake, Option.bind_some, if_pos rfl]
  have c1 : cutI p0 0 (min (p0.length : Int) 40) = some (p0.take (min p0.length 40)) := cut_min p0 40
  rw [c1, Option.bind_some]
  refine forL_or (fun j (s : Mp apiRef × List UInt8 × List apiRef × Int) => ∃ es : List editsEdit, Rel s.2.2.1 s.1 ∧ Up s.2.2.1 ∧ s.2.2.1.length ≤ 5 * j ∧ (∀ r ∈ s.2.2.1, go_edits_May r = some true) ∧ 0 ≤ s.2.2.2 ∧ s.2.1 = (es.map editB).flatMap mkF ∧ es.length ≤ j ∧ (∀ e ∈ es, go_edits_Read (editB e) = some (e, true) ∧ (editB e).length ≤ 400) ∧ Ran es ⟨s.2.2.1, s.2.2.2⟩) (fun r => r = some true) _ _ _ ⟨[], rel_nil, List.Pairwise.nil, by simp, (fun r hr => by cases hr), Int.le_refl _, rfl, by simp, (fun e he => by cases he), Ran.nil⟩ ?_ ?_
  · intro j a ⟨m, b, l, f⟩ nx _ hj ha ⟨es, i1, i2, i3, i4, i5, i6, i7, i8, i9⟩
    refine .inr ?_
    simp only at i1 i2 i3 i4 i5 i6 i9
    have h40 : j < 40 := by simp at hj; omega
    obtain ⟨e, he, hea, hed, hef⟩ := edit_dims a
    obtain ⟨t, c, m', h1, h2, h3, h4⟩ := do_do (f := f) (e := e) i1 (by omega)
    unfold go_law10_EditsDo.b1
    simp only []
    rw [he, Option.bind_some, h1, Option.bind_some, h2, Option.bind_some, if_pos rfl]
    by_cases hc : c = 0
    · obtain ⟨g1, g2, g3, g4, g5, g6, g7, g8, g9⟩ := h3 hc
      subst hc
      have hA := flat_le refB 41 e.Add (fun a ha => by rw [refB_len]; have := (may_lims (g7 a ha)).1; omega)
      have hD := flat_le textB 24 e.Drop (fun d hd => by
        obtain ⟨r, hr, rfl⟩ := g8 d hd
        rw [textB_len]
        have := (may_lims (i4 r hr)).1
        omega)
      have hA2 : e.Add.length * 41 ≤ 5 * 41 := Nat.mul_le_mul_right _ hea
      have hD2 : e.Drop.length * 24 ≤ 4 * 24 := Nat.mul_le_mul_right _ hed
      have hB : (editB e).length ≤ 400 := by rw [editB_len]; omega
      have hb : b.length ≤ 16360 := by
        rw [i6]
        exact frames_le (fun e he => (i8 e he).2) (by omega)
      have hml := mkF_len (editB e)
      rw [if_pos rfl, bytes_ok (by omega), Option.bind_some, make_ok (by omega), Option.bind_some, apB_ok (by simp only []; omega), Option.bind_some]
      have hsh : go_law10_Shows t m' e.Floor = some true := by
        have := shows_ok (f := e.Floor) g2 g1 (by omega)
        rw [← g3] at this ⊢
        exact this
      rw [hsh, Option.bind_some, if_pos rfl]
      obtain ⟨F, hF⟩ : ∃ F, fuel = F + 8 + 1 := ⟨1099511627767, by rw [fuel_eq]⟩
      rw [hF, names_loop g2 (by omega) 8 F 0 (Nat.le_refl _) rfl]
      refine ⟨_, rfl, es ++ [e], g2, g1, by simp only []; omega, ?_, by simp only []; omega, ?_, by simp; omega, ?_, ?_⟩
      · intro r hr
        rcases g9 r hr with hr | hr
        · exact i4 r hr
        · exact g7 r hr
      · simp only []
        rw [i6]
        simp
      · intro x hx
        rcases List.mem_append.1 hx with hx | hx
        · exact i8 x hx
        · rw [List.mem_singleton] at hx
          subst hx
          obtain ⟨y, hy, _, hy2⟩ := read_bytes (e := x) (by omega)
          rw [map_norm g7, wr_in (by omega) (by omega)] at hy2
          refine ⟨?_, hB⟩
          rw [hy, hy2]
      · exact Ran.snoc i9 h1
    · have ht := h4 hc
      subst ht
      rw [if_neg hc, if_pos (by simp), if_pos rfl]
      exact ⟨_, rfl, es, i1, i2, by simp only []; omega, i4, i5, i6, by omega, i8, i9⟩
  · intro ⟨m, b, l, f⟩ ⟨es, i1, i2, i3, i4, i5, i6, i7, i8, i9⟩
    simp only at i1 i2 i3 i4 i5 i6 i9
    have h40 : (p0.take (min p0.length 40)).length ≤ 40 := by rw [List.length_take]; omega
    have hes : es.length ≤ 40 := by omega
    have hmk : ∀ x ∈ es.map editB, x.length ≤ 400 := fun x hx => by
      rw [List.mem_map] at hx
      obtain ⟨e, he, rfl⟩ := hx
      exact (i8 e he).2
    have hb := frames_le (fun e he => (i8 e he).2) hes
    have hrow := rows_frames (xs := es.map editB) (fun x hx => by have := hmk x hx; omega) (by omega) (by rw [List.length_map]; omega)
    have hrep : go_edits_Replay b = some (⟨l, f⟩, (b.length : Int), 0) := by
      unfold go_edits_Replay
      rw [i6, hrow, Option.bind_some]
      simp only []
      rw [replay_ran i9 (fun e he => (i8 e he).1)]
    simp only []
    rw [hrep, Option.bind_some]
    simp only [if_true]
    rw [shows_ok i1 i2 (by omega)]
    rfl
end Go.Proofs.Ytjlhookdigbjhaa.Eg
