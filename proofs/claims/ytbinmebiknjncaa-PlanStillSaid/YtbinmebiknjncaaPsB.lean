/- PlanStill, in plain words. -/
import Derived.Test.YtbinmebiknjncaaPsA
namespace Go.Proofs.Ytbinmebiknjncaa.Ps
open Go Go.Shelf Go.Proofs Go.Proofs.Ytbinmebiknjncaa.Sx Go.Proofs.Ytbinmebiknjncaa.P1 Go.Proofs.Ytbinmebiknjncaa.P2 Go.Proofs.Ytbinmebiknjncaa.P3 Go.Proofs.Ytbinmebiknjncaa.Q1 Go.Proofs.Ytbinmebiknjncaa.S1 Go.Proofs.Ytbinmebiknjncaa.Q2
open Go.Proofs.Ytbinmebiknjncaa.Pl (wr_id apB_ok cutI_ok forL_fold forL_ex md Ok Oks K K_mem K_len srt plan_of plan_unn unn ofS qS cS chain parts pstep pto fullF atOf atM nxt hit mstep max_eq foldl_filter' atOf_nonneg)
set_option linter.unusedVariables false
set_option linter.unusedSimpArgs false
/-! ### What is dropped -/
theorem del_names : ∀ (ds : List Str) (l : List apiRef) (x : Int) (k : List apiRef → Option (editsSet × Int)) (i : Nat), Diff l → l.length ≤ 100000 → ds.Nodup → (∀ d ∈ ds, ∃ a ∈ l, a.Name = d) →
    forL (go_edits_Do.b1 x) k i ds l = k (l.filter fun a => !decide (a.Name ∈ ds))
  | [], l, x, k, i, _, _, _, _ => by
    show k l = _
    congr 1
    symm
    rw [List.filter_eq_self]
    intro a _
    simp
  | d :: ds, l, x, k, i, hl, hn, hd, hm => by
    obtain ⟨hd1, hd2⟩ := List.nodup_cons.1 hd
    obtain ⟨a, ha, had⟩ := hm d (List.mem_cons_self ..)
    have hne : ¬ findF l d < 0 := by
      rcases findF_sign l d with h | h
      · exact absurd had (findF_neg.1 h a ha)
      · omega
    obtain ⟨m, e1, e2⟩ := findF_lt l d hne
    have hat : l[m].Name = d := by
      unfold findF at e1
      cases hk : l.findIdx? (fun a => decide (a.Name = d)) with
      | none => rw [hk] at e1; simp at e1
      | some q =>
        rw [hk] at e1
        simp only [] at e1
        obtain ⟨h1, h2, _⟩ := List.findIdx?_eq_some_iff_getElem.1 hk
        have : q = m := by omega
        subst this
        simpa using h2
    have hfil : l.take m ++ l.drop (m + 1) = l.filter fun a => !decide (a.Name = d) := by
      have hl2 : l = l.take m ++ l[m] :: l.drop (m + 1) := by rw [List.getElem_cons_drop, List.take_append_drop]
      have hp := hl
      rw [hl2] at hp
      have hp2 := List.pairwise_append.1 hp
      have hp3 := List.pairwise_cons.1 hp2.2.1
      conv => rhs; rw [hl2, List.filter_append, List.filter_cons]
      have f1 : (l.take m).filter (fun a => !decide (a.Name = d)) = l.take m := by
        rw [List.filter_eq_self]
        intro b hb
        have := hp2.2.2 b hb l[m] (List.mem_cons_self ..)
        rw [hat] at this
        simp [this]
      have f2 : (l.drop (m + 1)).filter (fun a => !decide (a.Name = d)) = l.drop (m + 1) := by
        rw [List.filter_eq_self]
        intro b hb
        have := hp3.1 b hb
        rw [hat] at this
        simp [Ne.symm this]
      rw [f1, f2]
      simp [hat]
    show go_edits_Do.b1 x i d l (fun s' => forL (go_edits_Do.b1 x) k (i + 1) ds s') = _
    unfold go_edits_Do.b1
    rw [find_eq, Option.bind_some, if_neg hne]
    simp only []
    rw [e1, delete_eq hn e2, Option.bind_some]
    have hdl : (l.take m ++ l.drop (m + 1)).length ≤ 100000 := by simp; omega
    have ih := del_names ds (l.take m ++ l.drop (m + 1)) x k (i + 1) (pairwise_del hl m) hdl hd2 (fun d' hd' => by
      obtain ⟨b, hb, hbd⟩ := hm d' (List.mem_cons_of_mem _ hd')
      refine ⟨b, ?_, hbd⟩
      rw [hfil, List.mem_filter]
      refine ⟨hb, ?_⟩
      have : d' ≠ d := fun h => hd1 (h ▸ hd')
      simp [hbd, this])
    have ih2 := ih
    unfold go_edits_Do.b1 at ih2
    rw [ih2, hfil, List.filter_filter]
    congr 1
    apply List.filter_congr
    intro b _
    by_cases h1 : b.Name = d <;> by_cases h2 : b.Name ∈ ds <;> simp [h1, h2]
theorem do_drop {s : editsSet} {ds : List Str} {f : Int} (hu : Up s.Refs) (hn : s.Refs.length ≤ 1000) (hd : ds.Nodup) (hm : ∀ d ∈ ds, ∃ a ∈ s.Refs, a.Name = d) (hf : s.Floor ≤ f) (hf2 : f ≤ 1048576) :
    go_edits_Do s ⟨[], ds, f⟩ = some (⟨s.Refs.filter fun a => !decide (a.Name ∈ ds), f⟩, 0) := by
  unfold go_edits_Do go_edits_Do.j1
  rw [clone_eq (by omega), Option.bind_some]
  simp only []
  rw [del_names ds s.Refs f _ 0 (up_diff hu) (by omega) hd hm]
  simp only [forL]
  rw [if_neg (by omega), if_neg (by omega)]
  have hl : (s.Refs.filter fun a => !decide (a.Name ∈ ds)).length ≤ 100000 := Nat.le_trans (List.length_filter_le _ _) (by omega)
  rw [srt_eq hl, Option.bind_some, srt_id (l := s.Refs.filter fun a => !decide (a.Name ∈ ds)) (hu.sublist (List.filter_sublist ..))]
/-! ### The law's set -/
def nm (i : Nat) : Str := [toU8 (wr (97 + (i : Int)))]
theorem set_nm (p0 : List law11Ref) : ∃ s, go_law11_Set p0 0 = some s ∧ (∀ a ∈ s.Refs, Ok a) ∧ s.Refs.length ≤ 14 ∧ s.Refs.map apiRef.Name = (List.range s.Refs.length).map nm ∧ s.Floor = 0 := by
  unfold go_law11_Set
  have e : cutI p0 0 (min (p0.length : Int) 14) = some (p0.take (min p0.length 14)) := by
    rw [show min (p0.length : Int) 14 = ((min p0.length 14 : Nat) : Int) by omega, show (0 : Int) = ((0 : Nat) : Int) from rfl, cutI_ok (by omega) (by omega)]
    rfl
  rw [e, Option.bind_some]
  obtain ⟨s', h1, h2⟩ := forL_ex (body := go_law11_Set.b1) (k := fun l59 => some (⟨l59, (((0 : UInt8) % 12).toNat : Int)⟩ : editsSet)) (fun j l => (l.length = j ∧ l.map apiRef.Name = (List.range j).map nm) ∧ ∀ a ∈ l, Ok a) (p0.take (min p0.length 14)) 0 [] ⟨⟨rfl, rfl⟩, fun a h => (by cases h)⟩ (by
    intro j a l nx _ hj ha ⟨⟨hl, hN⟩, hI⟩
    have h14 : j < 14 := by simp at hj; omega
    have m1 := md (x := a.Kind) (n := 3) (by decide)
    have m2 := md (x := a.From) (n := 24) (by decide)
    have m3 := md (x := a.Long) (n := 9) (by decide)
    have n1 : (3 : UInt8).toNat = 3 := rfl
    have n2 : (24 : UInt8).toNat = 24 := rfl
    have n3 : (9 : UInt8).toNat = 9 := rfl
    have hnm : ∀ r : apiRef, r.Name = nm j → (l ++ [r]).map apiRef.Name = (List.range (j + 1)).map nm := fun r hr => by
      rw [List.map_append, hN, List.range_succ, List.map_append]
      simp [hr]
    unfold go_law11_Set.b1
    split
    · rename_i hk
      unfold go_law11_Set.j1
      rw [apB_ok (by simp; omega), Option.bind_some]
      refine ⟨_, rfl, ⟨by simp [hl], hnm _ rfl⟩, fun b hb => ?_⟩
      rcases List.mem_append.1 hb with hb | hb
      · exact hI b hb
      · rw [List.mem_singleton] at hb
        subst hb
        exact ⟨by simp only; omega, by simp only; omega, by simp only; omega, fun _ => rfl⟩
    · rename_i hk
      unfold go_law11_Set.j1
      rw [apB_ok (by simp; omega), Option.bind_some]
      refine ⟨_, rfl, ⟨by simp [hl], hnm _ rfl⟩, fun b hb => ?_⟩
      rcases List.mem_append.1 hb with hb | hb
      · exact hI b hb
      · rw [List.mem_singleton] at hb
        subst hb
        have hw : wr (((a.From % 24).toNat : Int) + ((a.Long % 9).toNat : Int)) = ((a.From % 24).toNat : Int) + ((a.Long % 9).toNat : Int) := wr_id (by omega) (by omega)
        rw [hw]
        exact ⟨by simp only; omega, by simp only; omega, by simp only; omega, fun h => absurd h hk⟩)
  refine ⟨_, h1, h2.2, by rw [h2.1.1]; simp; omega, ?_, rfl⟩
  have := h2.1.2
  rw [← h2.1.1] at this
  exact this
def P4 : List apiRef := [⟨[112, 48], 2, 0, 8⟩, ⟨[112, 49], 2, 8, 16⟩, ⟨[112, 50], 2, 16, 24⟩, ⟨[112, 51], 2, 24, 32⟩]
theorem names_up : ((List.range 14).map nm ++ P4.map apiRef.Name).Pairwise fun a b => Lib.compareBytes a b < 0 := by decide +kernel
theorem kept_up {l : List apiRef} (hl : l.length ≤ 14) (hN : l.map apiRef.Name = (List.range l.length).map nm) (p : apiRef → Bool) : Up (l.filter p ++ P4) := by
  have h1 : ((l ++ P4).map apiRef.Name).Pairwise fun a b => Lib.compareBytes a b < 0 := by
    rw [List.map_append, hN]
    refine names_up.sublist (List.Sublist.append_right ?_ _)
    exact (List.range_sublist.2 hl).map nm
  have h2 : Up (l ++ P4) := List.pairwise_map.1 h1
  exact h2.sublist (List.Sublist.append_right (List.filter_sublist ..) _)
end Go.Proofs.Ytbinmebiknjncaa.Ps
