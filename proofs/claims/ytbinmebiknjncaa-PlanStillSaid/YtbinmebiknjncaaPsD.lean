/- PlanStill, in plain words: the law. -/
import Derived.Test.YtbinmebiknjncaaPsC
namespace Go.Proofs.Ytbinmebiknjncaa.Ps
open Go Go.Shelf Go.Proofs Go.Proofs.Ytbinmebiknjncaa.Sx Go.Proofs.Ytbinmebiknjncaa.P1 Go.Proofs.Ytbinmebiknjncaa.P2 Go.Proofs.Ytbinmebiknjncaa.P3 Go.Proofs.Ytbinmebiknjncaa.Q1 Go.Proofs.Ytbinmebiknjncaa.S1 Go.Proofs.Ytbinmebiknjncaa.Q2
open Go.Proofs.Ytbinmebiknjncaa.Pl (wr_id apB_ok cutI_ok forL_fold forL_ex md Ok Oks K K_mem K_len srt plan_of plan_unn unn ofS qS cS chain parts pstep pto fullF atOf atM nxt hit mstep max_eq foldl_filter' atOf_nonneg)
set_option linter.unusedVariables false
set_option linter.unusedSimpArgs false
theorem loopF_succ {S R : Type} (body : S → (S → Option R) → Option R) (n : Nat) (s : S) : loopF body (n + 1) s = body s (loopF body n) := rfl
/-- The last loop: each index answers as it did, from the floor on. -/
theorem still_loop (p1 p2 : UInt8) (y7 : editsSet) (l l' : List apiRef) (fl n : Int) (hn : n = 24 + ((p1 % 9).toNat : Int)) (hn2 : n ≤ 32) (hfl : fl = Int.tmod (p2.toNat : Int) (n + 1)) (h0 : y7.Floor = 0) (hs : Oks l) (hs' : Oks l')
    (hA : ∀ i, 0 ≤ i → i ≤ n → (ofS ⟨l, 0⟩ n i).2 = 0) (hB : ∀ i, 0 ≤ i → i ≤ n → (ofS ⟨l', fl⟩ n i).2 = if i < fl then 9 else 0) :
    ∀ (k : Nat) (m : Nat) (i : Int), 0 ≤ i → n + 1 - i ≤ k → k < m → loopF (go_law11_PlanStill.b3 p1 p2 y7 l l' fl) m i = some true := by
  have e1 : wr (24 + ((p1 % 9).toNat : Int)) = n := by rw [hn]; exact wr_id (by omega) (by omega)
  have e2 : wr (n + 1) = n + 1 := wr_id (by omega) (by omega)
  intro k
  induction k with
  | zero =>
    intro m i hi hk hm
    obtain ⟨m, rfl⟩ : ∃ q, m = q + 1 := ⟨m - 1, by omega⟩
    rw [loopF_succ]
    unfold go_law11_PlanStill.b3
    rw [e1, if_neg (by omega)]
  | succ k ih =>
    intro m i hi hk hm
    obtain ⟨m, rfl⟩ : ∃ q, m = q + 1 := ⟨m - 1, by omega⟩
    rw [loopF_succ]
    generalize hT : loopF (go_law11_PlanStill.b3 p1 p2 y7 l l' fl) m = T
    unfold go_law11_PlanStill.b3
    rw [e1, e2]
    by_cases hin : i ≤ n
    · have hT2 : T (wr (i + 1)) = some true := by
        rw [← hT, wr_id (by omega) (by omega)]
        exact ih m (i + 1) (by omega) (by omega) (by omega)
      have h1 := plan_of (s := ⟨l, y7.Floor⟩) hs (head := n) (ask := i) (by omega)
      have h2 := plan_of (s := ⟨l', fl⟩) hs' (head := n) (ask := i) (by omega)
      rw [h0] at h1
      rw [if_pos hin, h0, h1, Option.bind_some, h2, Option.bind_some, hA i hi hin, hB i hi hin, if_pos rfl, ← hfl]
      by_cases h3 : i < fl
      · have h4 : ¬ fl ≤ i := by omega
        simp [h3, h4, hT2]
      · have h4 : fl ≤ i := by omega
        simp [h3, h4, hT2]
    · rw [if_neg hin]
theorem fil_eq {l : List apiRef} (hu : Up l) (c : apiRef → Bool) : (l.filter fun a => !decide (a.Name ∈ (l.filter c).map apiRef.Name)) = l.filter fun a => !c a := by
  apply List.filter_congr
  intro a ha
  congr 1
  by_cases h : c a = true
  · have h1 : a.Name ∈ (l.filter c).map apiRef.Name := List.mem_map.2 ⟨a, List.mem_filter.2 ⟨ha, h⟩, rfl⟩
    rw [decide_eq_true h1, h]
  · have h1 : ¬ a.Name ∈ (l.filter c).map apiRef.Name := by
      intro hc
      obtain ⟨b, hb, he⟩ := List.mem_map.1 hc
      obtain ⟨hb1, hb2⟩ := List.mem_filter.1 hb
      have := name_inj hu hb1 ha he
      subst this
      exact h hb2
    simp [h1, h]
theorem still_end (p1 p2 : UInt8) (y7 : editsSet) (l : List apiRef) (h0 : y7.Floor = 0) (hu : Up l) (hs : Oks l) (hp : l.filter (fun a => decide (a.Kind = 2)) = P4) (hn18 : l.length ≤ 19) :
    ((nzI (wr ((wr (24 + ((p1 % 9).toNat : Int))) + 1))).bind fun _ => (go_plan_Unneeded (⟨l, y7.Floor⟩ : editsSet) (Int.tmod (p2.toNat : Int) (wr ((wr (24 + ((p1 % 9).toNat : Int))) + 1)))).bind fun y1064 => (go_edits_Do (⟨l, y7.Floor⟩ : editsSet) (⟨[], y1064, Int.tmod (p2.toNat : Int) (wr ((wr (24 + ((p1 % 9).toNat : Int))) + 1))⟩ : editsEdit)).bind fun y1067 => go_law11_PlanStill.j1 p1 p2 y7 l y1067.2 y1067.1.Refs y1067.1.Floor) = some true := by
  have m1 := md (x := p1) (n := 9) (by decide)
  have n1 : (9 : UInt8).toNat = 9 := rfl
  obtain ⟨n, hn⟩ : ∃ n : Int, n = 24 + ((p1 % 9).toNat : Int) := ⟨_, rfl⟩
  have hnl : 24 ≤ n ∧ n ≤ 32 := by omega
  have e1 : wr (24 + ((p1 % 9).toNat : Int)) = n := by rw [hn]; exact wr_id (by omega) (by omega)
  have e2 : wr (n + 1) = n + 1 := wr_id (by omega) (by omega)
  obtain ⟨fl, hfl⟩ : ∃ fl : Int, fl = Int.tmod (p2.toNat : Int) (n + 1) := ⟨_, rfl⟩
  have hflr : 0 ≤ fl ∧ fl ≤ n := by
    rw [hfl, Int.tmod_eq_emod_of_nonneg (by omega)]
    have h1 := Int.emod_nonneg (p2.toNat : Int) (show n + 1 ≠ 0 by omega)
    have h2 := Int.emod_lt_of_pos (p2.toNat : Int) (show 0 < n + 1 by omega)
    omega
  rw [e1, e2, ← hfl]
  have hz : nzI (n + 1) = some () := by unfold nzI; rw [if_neg (by omega)]
  rw [hz, Option.bind_some, h0]
  have hs0 : Oks (⟨l, 0⟩ : editsSet).Refs := hs
  rw [plan_unn hs0, Option.bind_some]
  obtain ⟨x, hx⟩ : ∃ x, x = atM (fullF fl (K ⟨l, 0⟩ 0)) := ⟨_, rfl⟩
  have hK2 : K ⟨l, 0⟩ 2 = P4 := by unfold K; rw [hp]; exact srt_P4 0 (by omega)
  rw [← hx, hK2, names_filter, List.nil_append]
  have hnd : ((l.filter (unn x P4)).map apiRef.Name).Nodup := nodup_of_up (hu.sublist (List.filter_sublist ..))
  have hdo := do_drop (s := ⟨l, 0⟩) (ds := (l.filter (unn x P4)).map apiRef.Name) (f := fl) hu (by simp only []; omega) hnd (fun d hd => by
    obtain ⟨a, ha, he⟩ := List.mem_map.1 hd
    exact ⟨a, (List.mem_filter.1 ha).1, he⟩) hflr.1 (by omega)
  simp only [] at hdo
  simp only []
  rw [hdo, Option.bind_some, fil_eq hu]
  unfold go_law11_PlanStill.j1
  simp only []
  rw [if_pos trivial]
  obtain ⟨l', hl'⟩ : ∃ l', l' = l.filter fun a => !unn x P4 a := ⟨_, rfl⟩
  rw [← hl']
  have hs' : Oks l' := by rw [hl']; exact hs.filter _
  obtain ⟨m, hm, hmx, hpm⟩ := parts_unn x
  have hp' : l'.filter (fun a => decide (a.Kind = 2)) = P4.drop m := by
    rw [hl', List.filter_filter, ← hpm, ← hp, List.filter_filter]
    apply List.filter_congr
    intro a _
    rw [hp, Bool.and_comm]
  have hf := fuel_eq
  refine still_loop p1 p2 y7 l l' fl n hn hnl.2 hfl h0 hs hs' (fun i hi hin => ?_) (fun i hi hin => ?_) 100 _ 0 (Int.le_refl _) (by omega) (by rw [hf]; decide)
  · have := atOf_nonneg hs0 i
    exact of_ok hs0 (m := 0) (by omega) hp hnl.2 hin hi (by simpa using this)
  · by_cases hlt : i < fl
    · rw [if_pos hlt]
      unfold ofS
      rw [if_pos (.inl hlt)]
    · rw [if_neg hlt]
      have hs1 : Oks (⟨l', fl⟩ : editsSet).Refs := hs'
      refine of_ok hs1 hm hp' hnl.2 hin (show fl ≤ i by omega) ?_
      have hnn := atOf_nonneg hs1 i
      rcases hmx with hmx | rfl
      · cases hfo : fullF fl (K ⟨l, 0⟩ 0) with
        | none =>
          rw [hfo] at hx
          have : x = -1 := hx
          omega
        | some a =>
          rw [hfo] at hx
          have hxa : x = a.To := hx
          rcases Go.Proofs.Ytbinmebiknjncaa.Pl.full_mem fl (K ⟨l, 0⟩ 0) none a hfo with h | ⟨h, hto⟩
          · cases h
          · obtain ⟨ha, hk⟩ := K_mem.1 h
            have ha2 : a ∈ l := ha
            have ha' : a ∈ (⟨l', fl⟩ : editsSet).Refs := by
              show a ∈ l'
              rw [hl', List.mem_filter]
              refine ⟨ha2, ?_⟩
              unfold unn
              rw [if_pos hk, hxa]
              simp
            have := full_ge hs1 ha' hk (ask := i) (by omega)
            omega
      · simpa using hnn
theorem planStill (p0 : List law11Ref) (p1 p2 p3 : UInt8) : go_law11_PlanStill p0 p1 p2 p3 = some true := by
  unfold go_law11_PlanStill
  rw [Go.Proofs.Ytbinmebiknjncaa.Pl.awake, Option.bind_some, if_pos rfl]
  obtain ⟨s, hset, hok, hlen, hN, hF⟩ := set_nm p0
  rw [hset, Option.bind_some]
  have hfilt : forL go_law11_PlanStill.b1 (fun l765 => loopF (go_law11_PlanStill.b2 p1 p2 s) fuel (l765, 0)) 0 s.Refs [] = loopF (go_law11_PlanStill.b2 p1 p2 s) fuel (s.Refs.filter (fun a => !decide (a.Kind = 2)), 0) := by
    rw [forL_fold (fun l a => if (!decide (a.Kind = 2)) then l ++ [a] else l) (fun j l => l.length ≤ j) s.Refs 0 [] (Nat.le_refl _) (fun j a l nx _ hj ha hl => by
      unfold go_law11_PlanStill.b1
      by_cases h : a.Kind = 2
      · simp only [h, if_true, decide_true, Bool.not_true, Bool.false_eq_true, if_false]
        exact ⟨trivial, by omega⟩
      · simp only [h, if_false, decide_false, Bool.not_false, if_true]
        rw [apB_ok (by simp; omega), Option.bind_some]
        exact ⟨rfl, by simp; omega⟩), foldl_filter', List.nil_append]
  rw [hfilt]
  obtain ⟨L, hL⟩ : ∃ L, L = s.Refs.filter (fun a => !decide (a.Kind = 2)) := ⟨_, rfl⟩
  rw [← hL]
  have hLl : L.length ≤ 14 := by rw [hL]; exact Nat.le_trans (List.length_filter_le _ _) hlen
  obtain ⟨m, hm⟩ : ∃ m, fuel = m + 1 + 1 + 1 + 1 + 1 := ⟨1099511627771, by rw [fuel_eq]⟩
  have step : ∀ (l : List apiRef) (x : Int) (q : Nat) (r : apiRef), l.length ≤ 18 → 0 ≤ x → x < 4 → r = ⟨[112, toU8 (wr (48 + x))], 2, wr (8 * x), wr ((wr (8 * x)) + 8)⟩ → loopF (go_law11_PlanStill.b2 p1 p2 s) (q + 1) (l, x) = loopF (go_law11_PlanStill.b2 p1 p2 s) q (l ++ [r], x + 1) := by
    intro l x q r hl hx0 hx hr
    rw [loopF_succ]
    generalize hT : loopF (go_law11_PlanStill.b2 p1 p2 s) q = T
    unfold go_law11_PlanStill.b2
    simp only []
    rw [if_pos hx, apB_ok (by simp; omega), Option.bind_some, ← hr, wr_id (x := x + 1) (by omega) (by omega)]
  rw [hm, step L 0 _ ⟨[112, 48], 2, 0, 8⟩ (by omega) (by omega) (by omega) (by decide +kernel), step _ (0 + 1) _ ⟨[112, 49], 2, 8, 16⟩ (by simp; omega) (by omega) (by omega) (by decide +kernel), step _ (0 + 1 + 1) _ ⟨[112, 50], 2, 16, 24⟩ (by simp; omega) (by omega) (by omega) (by decide +kernel), step _ (0 + 1 + 1 + 1) _ ⟨[112, 51], 2, 24, 32⟩ (by simp; omega) (by omega) (by omega) (by decide +kernel), loopF_succ]
  have eL : L ++ [⟨[112, 48], 2, 0, 8⟩] ++ [⟨[112, 49], 2, 8, 16⟩] ++ [⟨[112, 50], 2, 16, 24⟩] ++ [⟨[112, 51], 2, 24, 32⟩] = L ++ P4 := by simp [P4]
  rw [eL]
  generalize loopF (go_law11_PlanStill.b2 p1 p2 s) m = T
  have hu : Up (L ++ P4) := by rw [hL]; exact kept_up hlen hN _
  have hs : Oks (L ++ P4) := by
    refine ⟨fun a ha => ?_, by simp [P4]; omega⟩
    rcases List.mem_append.1 ha with ha | ha
    · rw [hL] at ha; exact hok a (List.mem_filter.1 ha).1
    · simp only [P4, List.mem_cons, List.not_mem_nil, or_false] at ha
      rcases ha with rfl | rfl | rfl | rfl <;> exact ⟨by decide, by decide, by decide, fun h => by cases h⟩
  have hp : (L ++ P4).filter (fun a => decide (a.Kind = 2)) = P4 := by
    rw [List.filter_append]
    have h1 : L.filter (fun a => decide (a.Kind = 2)) = [] := by
      rw [List.filter_eq_nil_iff]
      intro a ha
      rw [hL] at ha
      have := (List.mem_filter.1 ha).2
      simpa using this
    have h2 : P4.filter (fun a => decide (a.Kind = 2)) = P4 := by decide
    rw [h1, h2, List.nil_append]
  have := still_end p1 p2 s (L ++ P4) hF hu hs hp (by simp [P4]; omega)
  unfold go_law11_PlanStill.b2
  simp only []
  rw [if_neg (by decide)]
  exact this
end Go.Proofs.Ytbinmebiknjncaa.Ps
