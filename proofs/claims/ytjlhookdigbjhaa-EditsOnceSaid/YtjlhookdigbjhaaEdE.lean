/- The edits package's plain law, its fifth part: EditsOnce. -/
import Derived.Test.YtjlhookdigbjhaaEdC
namespace Go.Proofs.Ytjlhookdigbjhaa.Ed
open Go Go.Shelf Go.Sort Go.Proofs Go.Proofs.Ytjlhookdigbjhaa.Sx Go.Proofs.Ytjlhookdigbjhaa.E1 Go.Proofs.Ytjlhookdigbjhaa.S1 Go.Proofs.Ytjlhookdigbjhaa.E2 Go.Proofs.Ytjlhookdigbjhaa.E3
set_option linter.unusedVariables false
set_option linter.unusedSimpArgs false
def Good3 (p : apiRef → Prop) (r : Option (editsSet × Int)) : Prop := ∃ t c, r = some (t, c) ∧ (c = 0 → ∀ a ∈ t.Refs, p a)
theorem do_pred {s : editsSet} {e : editsEdit} (p : apiRef → Prop) (hs : ∀ a ∈ s.Refs, p a) (he : ∀ a ∈ e.Add, p a) (h : s.Refs.length + e.Add.length ≤ 10000) : Good3 p (go_edits_Do s e) := by
  unfold go_edits_Do
  rw [clone_eq (by omega), Option.bind_some]
  unfold go_edits_Do.j1
  refine forL_or (fun (_ : Nat) (l : List apiRef) => l.length ≤ s.Refs.length ∧ ∀ a ∈ l, p a) (Good3 p) _ _ _ ⟨Nat.le_refl _, hs⟩ ?_ ?_
  · intro j a l nx _ hj ha ⟨hl, hm⟩
    unfold go_edits_Do.b1
    rw [find_eq, Option.bind_some]
    by_cases hk : findF l a < 0
    · rw [if_pos hk]
      exact .inl ⟨_, _, rfl, fun h => by cases h⟩
    · obtain ⟨k, e1, e2⟩ := findF_lt l a hk
      simp only [e1]
      rw [if_neg (by omega), delete_eq (by omega) e2, Option.bind_some]
      refine .inr ⟨_, rfl, by simp; omega, fun x hx => hm x ?_⟩
      rcases List.mem_append.1 hx with h | h
      · exact List.mem_of_mem_take h
      · exact List.mem_of_mem_drop h
  · intro l ⟨hl, hm⟩
    refine forL_or (fun (j : Nat) (l : List apiRef) => l.length ≤ s.Refs.length + j ∧ ∀ a ∈ l, p a) (Good3 p) _ _ _ ⟨by omega, hm⟩ ?_ ?_
    · intro j a l nx _ hj ha ⟨hl, hm⟩
      unfold go_edits_Do.b2
      obtain ⟨b, hb⟩ := may_ok a
      rw [hb, Option.bind_some]
      cases b with
      | false => exact .inl ⟨_, _, rfl, fun h => by cases h⟩
      | true =>
        rw [if_pos rfl, find_eq, Option.bind_some]
        by_cases hk : 0 ≤ findF l a.Name
        · rw [if_pos hk]
          exact .inl ⟨_, _, rfl, fun h => by cases h⟩
        · rw [if_neg hk, apB_ok (by simp; omega), Option.bind_some]
          refine .inr ⟨_, rfl, by simp; omega, fun x hx => ?_⟩
          rcases List.mem_append.1 hx with h | h
          · exact hm x h
          · rw [List.mem_singleton] at h
            subst h
            exact he _ ha
    · intro l ⟨hl, hm⟩
      by_cases h1 : e.Floor < s.Floor
      · rw [if_pos h1]
        exact ⟨_, _, rfl, fun h => by cases h⟩
      · by_cases h2 : 1048576 < e.Floor
        · rw [if_neg h1, if_pos h2]
          exact ⟨_, _, rfl, fun h => by cases h⟩
        · rw [if_neg h1, if_neg h2, srt_eq (by omega), Option.bind_some]
          exact ⟨_, _, rfl, fun _ a ha => hm a ((srt_perm l).mem_iff.1 ha)⟩
/-- A name of a step's. -/
def Nm (a : apiRef) : Prop := ∃ c, a.Name = [110, c]
theorem name_nm (n : UInt8) : ∃ c, go_law10_name n = some [110, c] := by
  have h : (match go_law10_name n with | some [110, _] => true | _ => false) = true := by
    revert n
    refine each8 ?_
    decide +kernel
  split at h
  · rename_i c hc
    exact ⟨c, hc⟩
  · cases h
theorem edit_nm (p : law10Step) (ho : p.Odd = false) : ∃ e, go_law10_Step_Edit p = some e ∧ ∀ a ∈ e.Add, Nm a := by
  unfold go_law10_Step_Edit
  have c1 : ∀ xs : List UInt8, cutI xs 0 (min (xs.length : Int) 4) = some (xs.take (min xs.length 4)) := fun xs => by
    rw [show min (xs.length : Int) 4 = ((min xs.length 4 : Nat) : Int) by omega, show (0 : Int) = ((0 : Nat) : Int) from rfl, cutI_ok (by omega) (by omega)]
    rfl
  rw [c1, Option.bind_some]
  refine forL_or (fun (j : Nat) (l : List apiRef) => l.length ≤ j ∧ ∀ a ∈ l, Nm a) (fun (r : Option editsEdit) => ∃ e, r = some e ∧ ∀ a ∈ e.Add, Nm a) _ _ _ ⟨Nat.le_refl _, fun a h => (by cases h)⟩ ?_ ?_
  · intro j a l nx _ hj ha ⟨hl, hm⟩
    refine .inr ?_
    have h4 : j < 4 := by simp at hj; omega
    obtain ⟨c, hs⟩ := name_nm a
    have hadd : ∀ r : apiRef, r.Name = [110, c] → ∀ x ∈ l ++ [r], Nm x := by
      intro r hr x hx
      rcases List.mem_append.1 hx with h | h
      · exact hm x h
      · rw [List.mem_singleton] at h
        subst h
        exact ⟨c, hr⟩
    unfold go_law10_Step_Edit.b1 go_law10_Step_Edit.j1
    rw [hs, Option.bind_some]
    split
    · rw [apB_ok (by simp; omega), Option.bind_some]
      exact ⟨_, rfl, by simp; omega, hadd _ rfl⟩
    · rw [apB_ok (by simp; omega), Option.bind_some]
      exact ⟨_, rfl, by simp; omega, hadd _ rfl⟩
  · intro l ⟨hl, hm⟩
    have hl4 : l.length ≤ 4 := by simp at hl; omega
    rw [c1, Option.bind_some]
    refine forL_or (fun (j : Nat) (l : List Str) => l.length ≤ j) (fun (r : Option editsEdit) => ∃ e, r = some e ∧ ∀ a ∈ e.Add, Nm a) _ _ _ (Nat.le_refl _) ?_ ?_
    · intro j a l nx _ hj ha hl
      refine .inr ?_
      have h4 : j < 4 := by simp at hj; omega
      obtain ⟨s, hs⟩ := name_ok a
      unfold go_law10_Step_Edit.b2
      rw [hs, Option.bind_some, apB_ok (by simp; omega), Option.bind_some]
      exact ⟨_, rfl, by simp; omega⟩
    · intro l2 hl2
      rw [ho, if_neg (by simp)]
      exact ⟨_, rfl, hm⟩
def zz (p : UInt8) : apiRef := ⟨[122, 122], 2, (p.toNat : Int), (p.toNat : Int)⟩
theorem nm_lt {a : apiRef} (h : Nm a) (p : UInt8) : Lib.compareBytes a.Name (zz p).Name < 0 := by
  obtain ⟨c, hc⟩ := h
  rw [hc]
  show Lib.compareBytes [110, c] [122, 122] < 0
  unfold Lib.compareBytes
  rw [if_pos (by decide)]
  omega
theorem nm_ne {a : apiRef} (h : Nm a) : a.Name ≠ [122, 122] := by
  obtain ⟨c, hc⟩ := h
  rw [hc]
  simp
theorem may_zz (p : UInt8) : go_edits_May (zz p) = some true := by
  have hp : p.toNat < 256 := UInt8.toNat_lt p
  unfold go_edits_May zz
  simp only []
  rw [if_neg (by simp), if_pos (by simp), if_pos (by omega), if_pos (by omega), if_pos (by omega), if_pos (by omega), if_pos (by omega), if_neg (by omega)]
theorem up_zz {l : List apiRef} (h : Up l) (hn : ∀ a ∈ l, Nm a) (p : UInt8) : Up (l ++ [zz p]) := by
  refine List.pairwise_append.2 ⟨h, List.pairwise_singleton _ _, fun x hx y hy => ?_⟩
  rw [List.mem_singleton] at hy
  subst hy
  exact nm_lt (hn x hx) p
theorem find_zz {l : List apiRef} (hn : ∀ a ∈ l, Nm a) (p : UInt8) : findF (l ++ [zz p]) [122, 122] = (l.length : Int) := by
  unfold findF
  rw [List.findIdx?_append]
  have h1 : l.findIdx? (fun a => decide (a.Name = [122, 122])) = none := by
    rw [List.findIdx?_eq_none_iff]
    intro x hx
    simpa using nm_ne (hn x hx)
  rw [h1]
  simp [List.findIdx?_cons, zz]
theorem editsOnce (p0 : List law10Step) (p1 : UInt8) : go_law10_EditsOnce p0 p1 = some true := by
  unfold go_law10_EditsOnce
  rw [awake, Option.bind_some, if_pos rfl]
  have hcut : cutI p0 0 (min (p0.length : Int) 30) = some (p0.take (min p0.length 30)) := by
    rw [show min (p0.length : Int) 30 = ((min p0.length 30 : Nat) : Int) by omega, show (0 : Int) = ((0 : Nat) : Int) from rfl, cutI_ok (by omega) (by omega)]
    rfl
  rw [hcut, Option.bind_some]
  refine forL_or (fun (j : Nat) (s : List apiRef × Int) => s.1.length ≤ 5 * j ∧ Fine ⟨s.1, s.2⟩ ∧ ∀ a ∈ s.1, Nm a) (fun r => r = some true) _ _ _ ⟨Nat.le_refl _, ⟨List.Pairwise.nil, fun a h => (by cases h), Int.le_refl _, by show (0 : Int) ≤ 1048576; omega⟩, fun a h => (by cases h)⟩ ?_ ?_
  · intro j a ⟨l, x⟩ nx _ hj ha ⟨hl, hF, hN⟩
    refine .inr ?_
    have h40 : j < 30 := by simp at hj; omega
    simp only at hl hF hN
    obtain ⟨e, he, hel⟩ := edit_ok a
    obtain ⟨t, c, ht, hc⟩ := do_fine (s := ⟨l, x⟩) (e := e) hF (by simp only; omega)
    unfold go_law10_EditsOnce.b1
    simp only []
    rw [he, Option.bind_some, ht, Option.bind_some]
    unfold go_law10_EditsOnce.j1
    by_cases h0 : c = 0
    · obtain ⟨h1, h2⟩ := hc h0
      have h2' : t.Refs.length ≤ l.length + e.Add.length := h2
      rw [if_pos h0]
      cases ho : a.Odd with
      | true => exact ⟨(l, x), rfl, by show l.length ≤ 5 * (j + 1); omega, hF, hN⟩
      | false =>
        obtain ⟨e2, he2, hn2⟩ := edit_nm a ho
        rw [he] at he2
        cases he2
        obtain ⟨t2, c2, ht2, hp2⟩ := do_pred (s := ⟨l, x⟩) (e := e) Nm hN hn2 (by simp only; omega)
        rw [ht] at ht2
        cases ht2
        exact ⟨(t.Refs, t.Floor), rfl, by show t.Refs.length ≤ 5 * (j + 1); omega, h1, hp2 h0⟩
    · rw [if_neg h0]
      exact ⟨(l, x), rfl, by show l.length ≤ 5 * (j + 1); omega, hF, hN⟩
  · intro ⟨l, x⟩ ⟨hl, hF, hN⟩
    have hl2 : l.length ≤ 150 := by simp at hl; omega
    simp only at hF hN
    have f1 : 0 ≤ x := hF.2.2.1
    have f2 : x ≤ 1048576 := hF.2.2.2
    have hup : Up l := hF.1
    have hz := up_zz hup hN p1
    have hneg : findF l [122, 122] = -1 := findF_neg.2 fun a ha => nm_ne (hN a ha)
    have tail : ∀ l' : List apiRef, l'.length ≤ 1000 → Up l' → (if x < x then some ((⟨[], 0⟩ : editsSet), (8 : Int)) else if 1048576 < x then some (⟨[], 0⟩, 8) else (go_sortRef l').bind fun y323 => some (⟨y323, x⟩, 0)) = some (⟨l', x⟩, 0) := by
      intro l' h1 h2
      rw [if_neg (by omega), if_neg (show ¬ 1048576 < x by omega), srt_eq (by omega), Option.bind_some, srt_id h2]
    have e1 : go_edits_Do ⟨l, x⟩ ⟨[zz p1], [], x⟩ = some (⟨l ++ [zz p1], x⟩, 0) := by
      unfold go_edits_Do
      rw [clone_eq (by simp only; omega), Option.bind_some]
      unfold go_edits_Do.j1
      show go_edits_Do.b2 x 0 (zz p1) l _ = _
      unfold go_edits_Do.b2
      rw [may_zz, Option.bind_some, if_pos rfl, find_eq, Option.bind_some]
      rw [show findF l (zz p1).Name = -1 from hneg, if_neg (by omega), apB_ok (by simp; omega), Option.bind_some]
      exact tail _ (by simp; omega) hz
    have hfz : findF (l ++ [zz p1]) [122, 122] = (l.length : Int) := find_zz hN p1
    have e2 : go_edits_Do ⟨l ++ [zz p1], x⟩ ⟨[zz p1], [], x⟩ = some (⟨[], 0⟩, 5) := by
      unfold go_edits_Do
      rw [clone_eq (by simp; omega), Option.bind_some]
      unfold go_edits_Do.j1
      show go_edits_Do.b2 x 0 (zz p1) (l ++ [zz p1]) _ = _
      unfold go_edits_Do.b2
      rw [may_zz, Option.bind_some, if_pos rfl, find_eq, Option.bind_some]
      rw [show findF (l ++ [zz p1]) (zz p1).Name = (l.length : Int) from hfz, if_pos (by omega)]
    have e3 : go_edits_Do ⟨l ++ [zz p1], x⟩ ⟨[], [[122, 122]], x⟩ = some (⟨l, x⟩, 0) := by
      unfold go_edits_Do
      rw [clone_eq (by simp; omega), Option.bind_some]
      unfold go_edits_Do.j1
      show go_edits_Do.b1 x 0 [122, 122] (l ++ [zz p1]) _ = _
      unfold go_edits_Do.b1
      rw [find_eq, Option.bind_some]
      rw [show findF (⟨l ++ [zz p1], x⟩ : editsSet).Refs [122, 122] = (l.length : Int) from hfz, if_neg (by omega), delete_eq (by simp; omega) (by simp), Option.bind_some]
      rw [show (l ++ [zz p1]).take l.length ++ (l ++ [zz p1]).drop (l.length + 1) = l by simp]
      exact tail l (by omega) hup
    have e4 : go_edits_Do ⟨l, x⟩ ⟨[], [[122, 122]], x⟩ = some (⟨[], 0⟩, 6) := by
      unfold go_edits_Do
      rw [clone_eq (by simp only; omega), Option.bind_some]
      unfold go_edits_Do.j1
      show go_edits_Do.b1 x 0 [122, 122] l _ = _
      unfold go_edits_Do.b1
      rw [find_eq, Option.bind_some]
      rw [show findF (⟨l, x⟩ : editsSet).Refs [122, 122] = -1 from hneg, if_pos (by omega)]
    show ((go_edits_Do (⟨l, x⟩ : editsSet) (⟨[zz p1], [], x⟩ : editsEdit)).bind _) = some true
    rw [e1, Option.bind_some]
    show ((go_edits_Do ⟨l ++ [zz p1], x⟩ (⟨[zz p1], [], x⟩ : editsEdit)).bind _) = some true
    rw [e2, Option.bind_some]
    show ((go_edits_Do ⟨l ++ [zz p1], x⟩ (⟨[], [[122, 122]], x⟩ : editsEdit)).bind _) = some true
    rw [e3, Option.bind_some]
    show ((go_edits_Do ⟨l, x⟩ (⟨[], [[122, 122]], x⟩ : editsEdit)).bind _) = some true
    rw [e4, Option.bind_some]
    rw [if_pos rfl, if_pos rfl, if_pos rfl, if_pos rfl, if_pos rfl, find_eq, Option.bind_some]
    rw [show findF (⟨l ++ [zz p1], x⟩ : editsSet).Refs [122, 122] = (l.length : Int) from hfz, if_pos rfl, find_eq, Option.bind_some]
    rw [show findF (⟨l, x⟩ : editsSet).Refs [122, 122] = -1 from hneg]
    rfl
end Go.Proofs.Ytjlhookdigbjhaa.Ed
