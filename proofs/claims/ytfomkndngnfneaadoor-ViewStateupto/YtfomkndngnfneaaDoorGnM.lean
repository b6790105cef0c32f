/- Part M of the second layer: maps whose keys are texts, as lists in the order of their keys. -/
import Derived.Test.YtfomkndngnfneaaDoorGnG
import Derived.MapKept
import Derived.Maps.RangeRun
namespace Go.Proofs.YtfomkndngnfneaaDoor.Sx
open Go Go.RowKit
set_option linter.unusedVariables false
set_option linter.unusedSimpArgs false
section
variable {V : Type}
/-! ### The order of texts -/
theorem lt_irr : ∀ a : Str, ltT a a = false
  | [] => rfl
  | x :: a => by
    have h := lt_irr a
    unfold ltT at h ⊢
    simp [Op.bytesLess, h]
theorem lt_trans : ∀ {a b c : Str}, ltT a b = true → ltT b c = true → ltT a c = true
  | [], [], _, h, _ => by simp [ltT, Op.bytesLess] at h
  | [], _ :: _, [], _, h => by simp [ltT, Op.bytesLess] at h
  | [], _ :: _, _ :: _, _, _ => by simp [ltT, Op.bytesLess]
  | _ :: _, [], _, h, _ => by simp [ltT, Op.bytesLess] at h
  | _ :: _, _ :: _, [], _, h => by simp [ltT, Op.bytesLess] at h
  | x :: a, y :: b, z :: c, h1, h2 => by
    have ih := @lt_trans a b c
    unfold ltT at ih h1 h2 ⊢
    simp only [Op.bytesLess, Bool.or_eq_true, decide_eq_true_eq, Bool.and_eq_true, beq_iff_eq] at h1 h2 ⊢
    rcases h1 with h1 | ⟨rfl, h1⟩
    · rcases h2 with h2 | ⟨rfl, h2⟩
      · left; rw [UInt8.lt_iff_toNat_lt] at *; omega
      · exact .inl h1
    · rcases h2 with h2 | ⟨rfl, h2⟩
      · exact .inl h2
      · exact .inr ⟨rfl, ih h1 h2⟩
theorem lt_tri : ∀ (a b : Str), ltT a b = true ∨ a = b ∨ ltT b a = true
  | [], [] => .inr (.inl rfl)
  | [], _ :: _ => .inl rfl
  | _ :: _, [] => .inr (.inr rfl)
  | x :: a, y :: b => by
    have ih := lt_tri a b
    unfold ltT at ih ⊢
    simp only [Op.bytesLess, Bool.or_eq_true, decide_eq_true_eq, Bool.and_eq_true, beq_iff_eq, List.cons.injEq]
    rcases Nat.lt_trichotomy x.toNat y.toNat with h | h | h
    · exact .inl (.inl (UInt8.lt_iff_toNat_lt.2 h))
    · have : x = y := UInt8.toNat_inj.1 h
      subst this
      rcases ih with h | h | h
      · exact .inl (.inr ⟨rfl, h⟩)
      · exact .inr (.inl ⟨rfl, h⟩)
      · exact .inr (.inr (.inr ⟨rfl, h⟩))
    · exact .inr (.inr (.inl (UInt8.lt_iff_toNat_lt.2 h)))
/-! ### Maps as lists -/
abbrev Mp (V : Type) := List (Str × V)
def Srt (m : Mp V) : Prop := m.Pairwise fun a b => ltT a.1 b.1 = true
def mget (m : Mp V) (k : Str) : Option V := (m.find? fun e => decide (e.1 = k)).map (·.2)
def mput : Mp V → Str → V → Mp V
  | [], k, v => [(k, v)]
  | x :: m, k, v => if x.1 = k then (k, v) :: m else if ltT k x.1 then (k, v) :: x :: m else x :: mput m k v
def mdel (m : Mp V) (k : Str) : Mp V := m.filter fun e => !decide (e.1 = k)
theorem Srt.nil : Srt ([] : Mp V) := List.Pairwise.nil
theorem Srt.inj {m : Mp V} (h : Srt m) {a b : Str × V} (ha : a ∈ m) (hb : b ∈ m) (he : a.1 = b.1) : a = b := by
  induction m with
  | nil => cases ha
  | cons c m ih =>
    have h1 := List.pairwise_cons.1 h
    rcases List.mem_cons.1 ha with rfl | ha'
    · rcases List.mem_cons.1 hb with rfl | hb'
      · rfl
      · have := h1.1 b hb'; rw [he, lt_irr] at this; cases this
    · rcases List.mem_cons.1 hb with rfl | hb'
      · have := h1.1 a ha'; rw [← he, lt_irr] at this; cases this
      · exact ih h1.2 ha' hb'
theorem mem_mdel {m : Mp V} {k : Str} {x : Str × V} : x ∈ mdel m k ↔ x ∈ m ∧ x.1 ≠ k := by
  unfold mdel
  rw [List.mem_filter]
  simp
theorem Srt.del {m : Mp V} (h : Srt m) (k : Str) : Srt (mdel m k) := h.sublist (List.filter_sublist ..)
theorem mem_mput {m : Mp V} (h : Srt m) {k : Str} {v : V} {x : Str × V} : x ∈ mput m k v ↔ x = (k, v) ∨ (x ∈ m ∧ x.1 ≠ k) := by
  induction m with
  | nil => simp [mput]
  | cons c m ih =>
    have h1 := List.pairwise_cons.1 h
    have ih := ih h1.2
    unfold mput
    have hgt : ∀ y ∈ m, y.1 ≠ c.1 := fun y hy he => by have := h1.1 y hy; rw [he, lt_irr] at this; cases this
    split
    · rename_i hc
      subst hc
      rw [List.mem_cons, List.mem_cons]
      constructor
      · rintro (rfl | hx)
        · exact .inl rfl
        · exact .inr ⟨.inr hx, hgt x hx⟩
      · rintro (rfl | ⟨rfl | hx, hn⟩)
        · exact .inl rfl
        · exact absurd rfl hn
        · exact .inr hx
    · rename_i hc
      split
      · rename_i hl
        rw [List.mem_cons]
        constructor
        · rintro (rfl | hx)
          · exact .inl rfl
          · refine .inr ⟨hx, fun he => ?_⟩
            rcases List.mem_cons.1 hx with rfl | hx
            · exact hc he
            · have := lt_trans hl (h1.1 x hx)
              rw [he, lt_irr] at this
              cases this
        · rintro (rfl | ⟨hx, _⟩)
          · exact .inl rfl
          · exact .inr hx
      · rw [List.mem_cons, ih, List.mem_cons]
        constructor
        · rintro (rfl | rfl | ⟨hx, hn⟩)
          · exact .inr ⟨.inl rfl, hc⟩
          · exact .inl rfl
          · exact .inr ⟨.inr hx, hn⟩
        · rintro (rfl | ⟨rfl | hx, hn⟩)
          · exact .inr (.inl rfl)
          · exact .inl rfl
          · exact .inr (.inr ⟨hx, hn⟩)
theorem Srt.put {m : Mp V} (h : Srt m) (k : Str) (v : V) : Srt (mput m k v) := by
  induction m with
  | nil => exact List.pairwise_singleton ..
  | cons c m ih =>
    have h1 := List.pairwise_cons.1 h
    have ih := ih h1.2
    unfold mput
    split
    · rename_i hc
      subst hc
      exact List.pairwise_cons.2 ⟨h1.1, h1.2⟩
    · rename_i hc
      split
      · rename_i hl
        refine List.pairwise_cons.2 ⟨fun y hy => ?_, h⟩
        rcases List.mem_cons.1 hy with rfl | hy
        · exact hl
        · exact lt_trans hl (h1.1 y hy)
      · rename_i hl
        refine List.pairwise_cons.2 ⟨fun y hy => ?_, ih⟩
        rcases (mem_mput h1.2).1 hy with rfl | ⟨hy, _⟩
        · rcases lt_tri c.1 k with h' | h' | h'
          · exact h'
          · exact absurd h' hc
          · exact absurd h' hl
        · exact h1.1 y hy
theorem mget_some {m : Mp V} (h : Srt m) {k : Str} {v : V} : mget m k = some v ↔ (k, v) ∈ m := by
  unfold mget
  constructor
  · intro hg
    rw [Option.map_eq_some_iff] at hg
    obtain ⟨a, ha, rfl⟩ := hg
    have h1 := List.find?_some ha
    have h2 := List.mem_of_find?_eq_some ha
    simp at h1
    subst h1
    exact h2
  · intro hm
    cases hf : m.find? (fun e => decide (e.1 = k)) with
    | none =>
      rw [List.find?_eq_none] at hf
      exact absurd (by simp) (hf _ hm)
    | some a =>
      have h1 := List.find?_some hf
      have h2 := List.mem_of_find?_eq_some hf
      simp at h1
      have := h.inj h2 hm h1
      rw [this]
      rfl
theorem mget_none {m : Mp V} {k : Str} : mget m k = none ↔ ∀ x ∈ m, x.1 ≠ k := by
  unfold mget
  rw [Option.map_eq_none_iff, List.find?_eq_none]
  simp
theorem srt_ext {m m' : Mp V} (h : Srt m) (h' : Srt m') (he : ∀ x, x ∈ m ↔ x ∈ m') : m = m' := by
  induction m generalizing m' with
  | nil =>
    cases m' with
    | nil => rfl
    | cons b m' => exact absurd ((he b).2 (List.mem_cons_self ..)) (by simp)
  | cons a m ih =>
    cases m' with
    | nil => exact absurd ((he a).1 (List.mem_cons_self ..)) (by simp)
    | cons b m' =>
      have p1 := List.pairwise_cons.1 h
      have p2 := List.pairwise_cons.1 h'
      have e : a = b := by
        rcases List.mem_cons.1 ((he a).1 (List.mem_cons_self ..)) with e | ha
        · exact e
        · rcases List.mem_cons.1 ((he b).2 (List.mem_cons_self ..)) with e | hb
          · exact e.symm
          · have := lt_trans (p1.1 b hb) (p2.1 a ha)
            rw [lt_irr] at this
            cases this
      subst e
      congr 1
      refine ih p1.2 p2.2 (fun x => ?_)
      constructor
      · intro hx
        rcases List.mem_cons.1 ((he x).1 (List.mem_cons_of_mem _ hx)) with rfl | hx'
        · have := p1.1 x hx; rw [lt_irr] at this; cases this
        · exact hx'
      · intro hx
        rcases List.mem_cons.1 ((he x).2 (List.mem_cons_of_mem _ hx)) with rfl | hx'
        · have := p2.1 x hx; rw [lt_irr] at this; cases this
        · exact hx'
/-- A loop over a map, in whatever order: an answer that is the same in each. -/
noncomputable def forN {S R : Type} (b : Str × V → S → (S → Option R) → Option R) (K : S → Option R) : Nat → Mp V → S → Option R
  | 0, _, s => K s
  | n + 1, m, s => by
    classical
    exact if h : ∃ r, ∀ a ∈ m, b a s (fun s' => forN b K n (mdel m a.1) s') = some r then some (Classical.choose h) else none
theorem forN_in {S R : Type} {b : Str × V → S → (S → Option R) → Option R} {K : S → Option R} {n : Nat} {m : Mp V} {s : S} {r : R} (h : forN b K (n + 1) m s = some r) {a : Str × V} (ha : a ∈ m) : b a s (fun s' => forN b K n (mdel m a.1) s') = some r := by
  unfold forN at h
  split at h
  · rename_i hx
    cases h
    exact Classical.choose_spec hx a ha
  · cases h
theorem forN_mk {S R : Type} {b : Str × V → S → (S → Option R) → Option R} {K : S → Option R} {n : Nat} {m : Mp V} {s : S} {r : R} (hne : m ≠ []) (h : ∀ a ∈ m, b a s (fun s' => forN b K n (mdel m a.1) s') = some r) : forN b K (n + 1) m s = some r := by
  unfold forN
  have hx : ∃ r, ∀ a ∈ m, b a s (fun s' => forN b K n (mdel m a.1) s') = some r := ⟨r, h⟩
  rw [dif_pos hx]
  obtain ⟨a, ha⟩ := List.exists_mem_of_ne_nil m hne
  have h1 := Classical.choose_spec hx a ha
  rw [h a ha] at h1
  exact h1.symm
theorem forN_nil {S R : Type} {b : Str × V → S → (S → Option R) → Option R} {K : S → Option R} {m : Mp V} {s : S} {r : R} (h : forN b K m.length m s = some r) (hm : m = []) : K s = some r := by
  subst hm
  exact h
theorem mdel_len {m : Mp V} (h : Srt m) {a : Str × V} (ha : a ∈ m) : (mdel m a.1).length + 1 = m.length := by
  induction m with
  | nil => cases ha
  | cons c m ih =>
    have h1 := List.pairwise_cons.1 h
    unfold mdel
    by_cases hc : c.1 = a.1
    · have hf : m.filter (fun e => !decide (e.1 = a.1)) = m := by
        rw [List.filter_eq_self]
        intro y hy
        have hl := h1.1 y hy
        have : y.1 ≠ a.1 := fun he => by rw [he, ← hc, lt_irr] at hl; cases hl
        simp [this]
      rw [List.filter_cons, if_neg (by simp [hc]), hf, List.length_cons]
    · rcases List.mem_cons.1 ha with rfl | ha
      · exact absurd rfl hc
      · have := ih h1.2 ha
        unfold mdel at this
        rw [List.filter_cons, if_pos (by simp [hc]), List.length_cons, List.length_cons]
        omega
theorem forN_cons {S R : Type} {b : Str × V → S → (S → Option R) → Option R} {K : S → Option R} {m : Mp V} {s : S} {r : R} (h : forN b K m.length m s = some r) (hs : Srt m) {a : Str × V} (ha : a ∈ m) :
    ∃ nx : S → Option R, (∀ s', nx s' = forN b K (mdel m a.1).length (mdel m a.1) s') ∧ b a s nx = some r := by
  have hl := mdel_len hs ha
  rw [← hl] at h
  exact ⟨_, fun _ => rfl, forN_in h ha⟩
end
end Go.Proofs.YtfomkndngnfneaaDoor.Sx
