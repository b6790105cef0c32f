/- edits.Read in plain words: it ends, and what it tells has these bytes; what was laid is read. -/
import Derived.Test.YtjlhookdigbjhaaEfB
namespace Go.Proofs.Ytjlhookdigbjhaa.Ef
open Go Go.Proofs Go.Proofs.Ytjlhookdigbjhaa.Sx Go.Proofs.Ytjlhookdigbjhaa.E1 Go.Proofs.Ytjlhookdigbjhaa.S1 Go.Proofs.Ytjlhookdigbjhaa.E2 Go.Proofs.Ytjlhookdigbjhaa.E3 Go.Proofs.Ytjlhookdigbjhaa.E4 Go.Proofs.Ytjlhookdigbjhaa.E5 Go.Proofs.Ytjlhookdigbjhaa.E6 Go.Proofs.Ytjlhookdigbjhaa.Ed
set_option linter.unusedVariables false
set_option linter.unusedSimpArgs false
/-- What is told at the end. -/
def fin (p0 : List UInt8) (F : Int) (acc : List apiRef) (d : List Str) (l : List UInt8) (bad : Bool) : Option (editsEdit × Bool) :=
  (go_pack_Reader_Done ⟨l, bad⟩).bind fun y => if y then ((go_edits_Bytes ⟨acc, d, F⟩).bind fun z => if (!(decide (z = p0))) then some (⟨[], [], 0⟩, false) else some (⟨acc, d, F⟩, true)) else some (⟨[], [], 0⟩, false)
/-- A round of the second loop. -/
def Body2 (p0 : List UInt8) (F : Int) (acc : List apiRef) (B : (Int × List UInt8 × Bool × List Str) → (Int × List UInt8 × Bool × List Str → Option (editsEdit × Bool)) → Option (editsEdit × Bool)) : Prop :=
  ∀ x l bad d nx, B (x, l, bad, d) nx = if 0 < x then (if bad then fin p0 F acc d l bad else ((go_pack_Reader_Text ⟨l, bad⟩).bind fun y => (apB 16 d [y.1]).bind fun d2 => nx (wr (x - 1), y.2.b_, y.2.bad_, d2))) else fin p0 F acc d l bad
theorem body_b2 (p0 : List UInt8) (y7 : Int × packReader) (acc : List apiRef) : Body2 p0 y7.1 acc (go_edits_Read.b2 p0 y7 acc) := fun x l bad d nx => by
  unfold go_edits_Read.b2 go_edits_Read.j1 go_edits_Read.j2 fin go_pack_Reader_Bad
  rfl
theorem body_b3 (p0 : List UInt8) (y7 : Int × packReader) (acc : List apiRef) : Body2 p0 y7.1 acc (go_edits_Read.b3 p0 y7 acc) := fun x l bad d nx => by
  unfold go_edits_Read.b3 go_edits_Read.j3 go_edits_Read.j4 fin go_pack_Reader_Bad
  rfl
theorem body_b1 (p0 : List UInt8) (y7 : Int × packReader) (x : Int) (l : List UInt8) (bad : Bool) (acc : List apiRef) (nx : Int × List UInt8 × Bool × List apiRef → Option (editsEdit × Bool)) :
    go_edits_Read.b1 p0 y7 (x, l, bad, acc) nx = if 0 < x then (if bad then ((go_pack_Reader_Num ⟨l, bad⟩).bind fun z => loopF (go_edits_Read.b2 p0 y7 acc) fuel (z.1, z.2.b_, z.2.bad_, [])) else
      ((go_pack_Reader_Text ⟨l, bad⟩).bind fun a => (go_pack_Reader_Byte a.2).bind fun b => (go_pack_Reader_Num b.2).bind fun c => (go_pack_Reader_Num c.2).bind fun d => (apB 40 acc [⟨a.1, (b.1.toNat : Int), c.1, d.1⟩]).bind fun acc2 => nx (wr (x - 1), d.2.b_, d.2.bad_, acc2)))
      else ((go_pack_Reader_Num ⟨l, bad⟩).bind fun z => loopF (go_edits_Read.b3 p0 y7 acc) fuel (z.1, z.2.b_, z.2.bad_, [])) := by
  unfold go_edits_Read.b1 go_pack_Reader_Bad
  rfl
/-- A good answer. -/
def Told (p0 : List UInt8) (r : Option (editsEdit × Bool)) : Prop := ∃ e ok, r = some (e, ok) ∧ (ok = true → go_edits_Bytes e = some p0 ∧ editB e = p0) ∧ (ok = false → e = ⟨[], [], 0⟩)
theorem fin_told {p0 : List UInt8} {F : Int} {acc : List apiRef} {d : List Str} {l : List UInt8} {bad : Bool} (h : bad = false → l = [] → (editB ⟨acc, d, F⟩).length ≤ 140737488355328) : Told p0 (fin p0 F acc d l bad) := by
  unfold fin
  rw [done_eq, Option.bind_some]
  by_cases hb : (!bad && decide (l = [])) = true
  · rw [if_pos hb]
    simp only [Bool.and_eq_true, Bool.not_eq_true', decide_eq_true_eq] at hb
    have h1 := bytes_ok (h hb.1 hb.2)
    rw [h1, Option.bind_some]
    by_cases he : editB ⟨acc, d, F⟩ = p0
    · rw [if_neg (by simp [he])]
      exact ⟨_, _, rfl, (fun _ => ⟨by rw [h1, he], he⟩), (fun hc => by cases hc)⟩
    · rw [if_pos (by simp [he])]
      exact ⟨_, _, rfl, (fun hc => by cases hc), (fun _ => rfl)⟩
  · rw [if_neg hb]
    exact ⟨_, _, rfl, (fun hc => by cases hc), (fun _ => rfl)⟩
theorem told2_bad {p0 : List UInt8} {F : Int} {acc : List apiRef} {B} (hB : Body2 p0 F acc B) (m : Nat) (x : Int) (l : List UInt8) (d : List Str) : Told p0 (loopF B (m + 1) (x, l, true, d)) := by
  rw [loopF_succ, hB]
  split
  · rw [if_pos rfl]; exact fin_told (fun h => by cases h)
  · exact fin_told (fun h => by cases h)
theorem flat_app {α : Type} (f : α → List UInt8) (d : List α) (s : α) : ((d ++ [s]).flatMap f).length = (d.flatMap f).length + (f s).length := by
  rw [List.flatMap_append, List.length_append]; simp
theorem told2 {p0 : List UInt8} {F : Int} {acc : List apiRef} {B} (hB : Body2 p0 F acc B) : ∀ (N m : Nat) (x : Int) (l : List UInt8) (bad : Bool) (d : List Str), l.length ≤ N → N + 2 ≤ m → d.length + l.length ≤ 8388608 →
    (bad = false → 24 + (acc.flatMap refB).length + (d.flatMap textB).length + l.length ≤ 140737488355328) → Told p0 (loopF B m (x, l, bad, d)) := by
  intro N
  induction N with
  | zero =>
    intro m x l bad d hl hm hd hs
    obtain ⟨m, rfl⟩ : ∃ k, m = k + 2 := ⟨m - 2, by omega⟩
    cases bad with
    | true => exact told2_bad hB _ _ _ _
    | false =>
      have hl0 : l = [] := List.eq_nil_of_length_eq_zero (by omega)
      subst hl0
      rw [loopF_succ, hB]
      split
      · rw [if_neg (by decide)]
        obtain ⟨s, r', hr, hor⟩ := rtext_eq [] false
        rw [hr, Option.bind_some]
        rcases hor with ⟨_, _, he⟩ | ⟨hb, hs0, _⟩
        · have := congrArg List.length he
          rw [List.length_append, textB_len] at this
          simp at this
          omega
        · rw [apB_ok (by simp at hd ⊢; omega), Option.bind_some]
          simp only []
          rw [hb]
          exact told2_bad hB _ _ _ _
      · refine fin_told (fun _ _ => ?_)
        have := hs rfl
        rw [editB_len]
        simp only [List.length_nil] at this ⊢
        omega
  | succ N ih =>
    intro m x l bad d hl hm hd hs
    obtain ⟨m, rfl⟩ : ∃ k, m = k + 2 := ⟨m - 2, by omega⟩
    cases bad with
    | true => exact told2_bad hB _ _ _ _
    | false =>
      rw [loopF_succ, hB]
      split
      · rw [if_neg (by decide)]
        obtain ⟨s, r', hr, hor⟩ := rtext_eq l false
        rw [hr, Option.bind_some, apB_ok (by simp; omega), Option.bind_some]
        simp only []
        rcases hor with ⟨_, hb, he⟩ | ⟨hb, hs0, _⟩
        · have h1 := congrArg List.length he
          rw [List.length_append, textB_len] at h1
          have h2 := hs rfl
          have h3 := flat_app textB d s
          rw [textB_len] at h3
          refine ih _ _ _ _ _ (by omega) (by omega) (by rw [List.length_append]; simp; omega) (fun _ => by rw [h3]; omega)
        · rw [hb]
          exact told2_bad hB _ _ _ _
      · refine fin_told (fun _ h => ?_)
        subst h
        have := hs rfl
        rw [editB_len]
        simp only [List.length_nil] at this ⊢
        omega
theorem fuel_big : 1099511627776 ≤ fuel := by rw [fuel_eq]; exact Nat.le_refl _
/-- The number ahead of the second loop, and that loop. -/
theorem told12 {p0 : List UInt8} {F : Int} {acc : List apiRef} {B} (hB : Body2 p0 F acc B) (l : List UInt8) (bad : Bool) (hl : l.length ≤ 8388608) (hs : bad = false → 16 + (acc.flatMap refB).length + l.length ≤ 140737488355328) :
    Told p0 ((go_pack_Reader_Num ⟨l, bad⟩).bind fun z => loopF B fuel (z.1, z.2.b_, z.2.bad_, [])) := by
  obtain ⟨n, r', hr, hor⟩ := rnum_or l bad
  have hf := fuel_big
  rw [hr, Option.bind_some]
  rcases hor with ⟨h1, h2, h3⟩ | ⟨h2, h3⟩
  · have h4 := congrArg List.length h3
    rw [List.length_append, num8_len] at h4
    have h5 := hs h1
    simp only []
    exact told2 hB 8388608 _ _ _ _ _ (by omega) (by omega) (by simp; omega) (fun _ => by simp only [List.flatMap_nil, List.length_nil]; omega)
  · simp only []
    rw [h2]
    exact told2 hB 8388608 _ _ _ _ _ (by omega) (by omega) (by simp; omega) (fun h => by cases h)
theorem told1 {p0 : List UInt8} {y7 : Int × packReader} : ∀ (N m : Nat) (x : Int) (l : List UInt8) (bad : Bool) (acc : List apiRef), l.length ≤ N → N + 2 ≤ m → acc.length + l.length ≤ 8388608 →
    (bad = false → 16 + (acc.flatMap refB).length + l.length ≤ 140737488355328) → Told p0 (loopF (go_edits_Read.b1 p0 y7) m (x, l, bad, acc)) := by
  have hbad : ∀ (m : Nat) (x : Int) (l : List UInt8) (acc : List apiRef), l.length ≤ 8388608 → Told p0 (loopF (go_edits_Read.b1 p0 y7) (m + 1) (x, l, true, acc)) := by
    intro m x l acc hl
    rw [loopF_succ, body_b1]
    split
    · rw [if_pos rfl]; exact told12 (body_b2 p0 y7 acc) l true hl (fun h => by cases h)
    · exact told12 (body_b3 p0 y7 acc) l true hl (fun h => by cases h)
  intro N
  induction N with
  | zero =>
    intro m x l bad acc hl hm hd hs
    obtain ⟨m, rfl⟩ : ∃ k, m = k + 2 := ⟨m - 2, by omega⟩
    cases bad with
    | true => exact hbad _ _ _ _ (by omega)
    | false =>
      have hl0 : l = [] := List.eq_nil_of_length_eq_zero (by omega)
      subst hl0
      rw [loopF_succ, body_b1]
      split
      · rw [if_neg (by decide)]
        obtain ⟨s, r1, hr1, ho1⟩ := rtext_eq [] false
        have hb1 : r1.bad_ = true ∧ r1.b_.length ≤ 0 := by
          rcases ho1 with ⟨_, _, he⟩ | ⟨hb, _, hl1⟩
          · have := congrArg List.length he
            rw [List.length_append, textB_len] at this
            simp at this
            omega
          · exact ⟨hb, hl1⟩
        obtain ⟨b1, t1⟩ := r1
        obtain ⟨c, r2, hr2, ho2⟩ := rbyte_or b1 t1
        obtain ⟨b2, t2⟩ := r2
        obtain ⟨n3, r3, hr3, ho3⟩ := rnum_or b2 t2
        obtain ⟨b3, t3⟩ := r3
        obtain ⟨n4, r4, hr4, ho4⟩ := rnum_or b3 t3
        obtain ⟨b4, t4⟩ := r4
        rw [hr1, Option.bind_some]
        simp only [] at hb1 ho2 ho3 ho4 ⊢
        obtain ⟨rfl, hl1⟩ := hb1
        rcases ho2 with ⟨h, _⟩ | ⟨rfl, hl2⟩
        · cases h
        rcases ho3 with ⟨h, _⟩ | ⟨rfl, hl3⟩
        · cases h
        rcases ho4 with ⟨h, _⟩ | ⟨rfl, hl4⟩
        · cases h
        rw [hr2, Option.bind_some]
        simp only []
        rw [hr3, Option.bind_some]
        simp only []
        rw [hr4, Option.bind_some, apB_ok (by simp at hd ⊢; omega), Option.bind_some]
        exact hbad _ _ _ _ (by simp only []; omega)
      · exact told12 (body_b3 p0 y7 acc) [] false (by simp) hs
  | succ N ih =>
    intro m x l bad acc hl hm hd hs
    obtain ⟨m, rfl⟩ : ∃ k, m = k + 2 := ⟨m - 2, by omega⟩
    cases bad with
    | true => exact hbad _ _ _ _ (by omega)
    | false =>
      rw [loopF_succ, body_b1]
      split
      · rw [if_neg (by decide)]
        obtain ⟨s, r1, hr1, ho1⟩ := rtext_eq l false
        obtain ⟨b1, t1⟩ := r1
        obtain ⟨c, r2, hr2, ho2⟩ := rbyte_or b1 t1
        obtain ⟨b2, t2⟩ := r2
        obtain ⟨n3, r3, hr3, ho3⟩ := rnum_or b2 t2
        obtain ⟨b3, t3⟩ := r3
        obtain ⟨n4, r4, hr4, ho4⟩ := rnum_or b3 t3
        obtain ⟨b4, t4⟩ := r4
        rw [hr1, Option.bind_some]
        simp only [] at ho1 ho2 ho3 ho4 ⊢
        rw [hr2, Option.bind_some]
        simp only []
        rw [hr3, Option.bind_some]
        simp only []
        rw [hr4, Option.bind_some, apB_ok (by simp; omega), Option.bind_some]
        simp only []
        have l2 : b2.length ≤ b1.length := by rcases ho2 with ⟨_, _, he⟩ | ⟨_, he⟩; rw [he]; simp; exact he
        have l3 : b3.length ≤ b2.length := by rcases ho3 with ⟨_, _, he⟩ | ⟨_, he⟩; rw [he]; simp; exact he
        have l4 : b4.length ≤ b3.length := by rcases ho4 with ⟨_, _, he⟩ | ⟨_, he⟩; rw [he]; simp; exact he
        have l1 : b1.length ≤ l.length := by rcases ho1 with ⟨_, _, he⟩ | ⟨_, _, he⟩; rw [he]; simp; exact he
        cases t4 with
        | true => exact hbad _ _ _ _ (by omega)
        | false =>
          rcases ho4 with ⟨rfl, _, e4⟩ | ⟨h, _⟩
          rotate_left
          · cases h
          rcases ho3 with ⟨rfl, _, e3⟩ | ⟨h, _⟩
          rotate_left
          · cases h
          rcases ho2 with ⟨rfl, _, e2⟩ | ⟨h, _⟩
          rotate_left
          · cases h
          rcases ho1 with ⟨_, _, e1⟩ | ⟨h, _⟩
          rotate_left
          · cases h
          have h1 := congrArg List.length e1
          have h2 := congrArg List.length e2
          have h3 := congrArg List.length e3
          have h4 := congrArg List.length e4
          simp only [List.length_append, textB_len, num8_len, List.length_singleton] at h1 h2 h3 h4
          have h5 := flat_app refB acc ⟨s, (c.toNat : Int), n3, n4⟩
          rw [refB_len] at h5
          simp only [] at h5
          have h6 := hs rfl
          exact ih _ _ _ _ _ (by omega) (by omega) (by rw [List.length_append]; simp; omega) (fun _ => by rw [h5]; omega)
      · exact told12 (body_b3 p0 y7 acc) l false (by omega) hs
/-- edits.Read ends. -/
theorem read_told {p0 : List UInt8} (h : p0.length ≤ 4194304) : Told p0 (go_edits_Read p0) := by
  unfold go_edits_Read go_pack_Of
  rw [Option.bind_some]
  obtain ⟨n1, r1, hr1, ho1⟩ := rnum_or p0 false
  obtain ⟨b1, t1⟩ := r1
  obtain ⟨n2, r2, hr2, ho2⟩ := rnum_or b1 t1
  rw [hr1, Option.bind_some]
  simp only [] at ho1 ho2 ⊢
  rw [hr2, Option.bind_some]
  have hf := fuel_big
  have l1 : b1.length ≤ p0.length := by rcases ho1 with ⟨_, _, he⟩ | ⟨_, he⟩; rw [he]; simp; exact he
  have l2 : r2.b_.length ≤ b1.length := by rcases ho2 with ⟨_, _, he⟩ | ⟨_, he⟩; rw [he]; simp; exact he
  simp only []
  exact told1 8388608 _ _ _ _ _ (by omega) (by omega) (by simp; omega) (fun _ => by simp only [List.flatMap_nil, List.length_nil]; omega)
end Go.Proofs.Ytjlhookdigbjhaa.Ef
