/- NetScript, in plain words: the net and the law's list go the same way. -/
import Derived.KernelRfl
import Derived.Test.YtiijlkebolfcpaaN2
namespace Go.Proofs.Ytiijlkebolfcpaa.Ne
open Go Go.Proofs.Ytiijlkebolfcpaa.Sx Go.Proofs.Ytiijlkebolfcpaa.N1 Go.Proofs.Ytiijlkebolfcpaa.N2
set_option linter.unusedVariables false
set_option linter.unusedSimpArgs false
theorem wr_id {x : Int} (h : -1000000 ≤ x) (h' : x ≤ 1000000) : wr x = x := by
  simp only [wr, IntKind.wrap, IntKind.bits, IntKind.signed, Bool.true_and, decide_eq_true_eq, show (2 : Int) ^ 64 = 18446744073709551616 from rfl, show (2 : Int) ^ (64 - 1) = 9223372036854775808 from rfl]
  split <;> omega
theorem apB_ok {α : Type} {b : Nat} {xs ys : List α} (h : (xs.length + ys.length) * b ≤ 140737488355328) : apB b xs ys = some (xs ++ ys) := by
  unfold apB
  rw [if_pos h]
theorem cutI_ok {α : Type} {xs : List α} {i j : Nat} (h : i ≤ j) (h' : j ≤ xs.length) : cutI xs (i : Int) (j : Int) = some ((xs.take j).drop i) := by
  unfold cutI
  rw [if_pos (by omega)]
  simp
theorem cut0 {α : Type} {xs : List α} {j : Nat} (h' : j ≤ xs.length) : cutI xs 0 (j : Int) = some (xs.take j) := by
  rw [show (0 : Int) = ((0 : Nat) : Int) from rfl, cutI_ok (by omega) h']
  simp
theorem cutE {α : Type} {xs : List α} {i : Nat} (h' : i ≤ xs.length) : cutI xs (i : Int) (xs.length : Int) = some (xs.drop i) := by
  rw [cutI_ok h' (Nat.le_refl _)]
  simp
theorem at_ok {α : Type} {xs : List α} {i : Nat} (h : i < xs.length) : atI xs (i : Int) = some xs[i] := by
  unfold atI
  rw [if_pos (by omega)]
  simp
theorem forL_or {α S R : Type} {body : Nat → α → S → (S → Option R) → Option R} {k : S → Option R} (I : Nat → S → Prop) (Q : Option R → Prop) : ∀ (xs : List α) (i : Nat) (s : S), I i s →
    (∀ (j : Nat) (a : α) (s : S) (nx : S → Option R), i ≤ j → j < i + xs.length → a ∈ xs → I j s → Q (body j a s nx) ∨ ∃ s', body j a s nx = nx s' ∧ I (j + 1) s') → (∀ s, I (i + xs.length) s → Q (k s)) → Q (forL body k i xs s)
  | [], i, s, h, _, hk => hk s h
  | x :: xs, i, s, h, hb, hk => by
    show Q (body i x s (fun s' => forL body k (i + 1) xs s'))
    rcases hb i x s (fun s' => forL body k (i + 1) xs s') (Nat.le_refl _) (by simp) (List.mem_cons_self ..) h with h1 | ⟨s', h1, h2⟩
    · exact h1
    · rw [h1]
      exact forL_or I Q xs (i + 1) s' h2 (fun j a s nx hj hj' ha hs => hb j a s nx (by omega) (by simp; omega) (List.mem_cons_of_mem _ ha) hs) (fun s hs => hk s (by rw [List.length_cons, show i + (xs.length + 1) = i + 1 + xs.length by omega]; exact hs))
/-- One more message. -/
def step (s : List Int × Int) (m : Int) : List Int × Int := if s.1.length = 64 then (s.1.drop 1 ++ [m], wr (s.2 + 1)) else (s.1 ++ [m], s.2)
theorem step_len {s : List Int × Int} {m : Int} (h : s.1.length ≤ 64) : (step s m).1.length ≤ 64 := by
  unfold step
  split
  · simp; omega
  · simp; omega
theorem step_full {w : List Int} {x m : Int} (h : w.length = 64) : step (w, x) m = (w.drop 1 ++ [m], wr (x + 1)) := by unfold step; rw [if_pos h]
theorem step_room {w : List Int} {x m : Int} (h : ¬ w.length = 64) : step (w, x) m = (w ++ [m], x) := by unfold step; rw [if_neg h]
/-- The place, going round. -/
theorem pl_ok (k : Int) (n : Nat) (h : 0 < n) (h' : n ≤ 64) : ∃ q : Nat, q < n ∧ Int.tmod (wr ((Int.tmod k (n : Int)) + (n : Int))) (n : Int) = (q : Int) := by
  have h1 := Int.lt_tmod_of_pos k (show (0 : Int) < (n : Int) by omega)
  have h2 := Int.tmod_lt_of_pos k (show (0 : Int) < (n : Int) by omega)
  rw [wr_id (by omega) (by omega)]
  have h3 := Int.tmod_lt_of_pos (Int.tmod k (n : Int) + (n : Int)) (show (0 : Int) < (n : Int) by omega)
  have h4 := Int.tmod_nonneg (n : Int) (show 0 ≤ Int.tmod k (n : Int) + (n : Int) by omega)
  exact ⟨(Int.tmod (Int.tmod k (n : Int) + (n : Int)) (n : Int)).toNat, by omega, by omega⟩
def plF (k : Int) (n : Nat) : Int := Int.tmod (wr ((Int.tmod k (n : Int)) + (n : Int))) (n : Int)
theorem place_eq (w : List Int) (x k : Int) : go_net_Net_int_place ⟨w, x⟩ k = some (if w.length = 0 then -1 else plF k w.length) := by
  unfold go_net_Net_int_place
  by_cases h : w.length = 0
  · rw [if_pos (by simp only; omega), if_pos h]
  · have hz : nzI (w.length : Int) = some () := by unfold nzI; rw [if_neg (by omega)]
    rw [if_neg (by simp only; omega), if_neg h]
    simp only []
    rw [hz, Option.bind_some, Option.bind_some]
    rfl
theorem lplace_eq (k : Int) {n : Nat} (h : 0 < n) : go_law15_place k (n : Int) = some (plF k n) := by
  unfold go_law15_place
  have hz : nzI (n : Int) = some () := by unfold nzI; rw [if_neg (by omega)]
  rw [hz, Option.bind_some, Option.bind_some]
  rfl
theorem take_nil (x k : Int) : go_net_Net_int_Take ⟨[], x⟩ k = some (0, false, ⟨[], x⟩) := by
  unfold go_net_Net_int_Take
  rw [place_eq, Option.bind_some]
  rfl
theorem take_some {w : List Int} (x k : Int) (h : 0 < w.length) (h' : w.length ≤ 64) : ∃ q : Nat, ∃ hq : q < w.length, plF k w.length = (q : Int) ∧ go_net_Net_int_Take ⟨w, x⟩ k = some (w[q], true, ⟨w.take q ++ w.drop (q + 1), x⟩) := by
  obtain ⟨q, hq, e⟩ := pl_ok k w.length h h'
  refine ⟨q, hq, e, ?_⟩
  unfold go_net_Net_int_Take
  rw [place_eq, Option.bind_some, if_neg (show ¬ w.length = 0 by omega), show plF k w.length = (q : Int) from e, if_neg (by omega)]
  simp only []
  have hw : wr ((q : Int) + 1) = ((q + 1 : Nat) : Int) := by rw [wr_id (by omega) (by omega)]; omega
  have hc : cap3 w.length (q : Int) (q : Int) = some () := by unfold cap3; rw [if_pos (by omega)]
  rw [at_ok hq, Option.bind_some, cut0 (by omega), Option.bind_some, hc, Option.bind_some, hw, cutE (by omega), Option.bind_some, apB_ok (by simp; omega), Option.bind_some]
theorem drop_nil (x k : Int) : go_net_Net_int_Drop ⟨[], x⟩ k = some (false, ⟨[], x⟩) := by
  unfold go_net_Net_int_Drop
  rw [take_nil, Option.bind_some]
  rfl
theorem drop_some {w : List Int} (x k : Int) (h : 0 < w.length) (h' : w.length ≤ 64) : ∃ q : Nat, q < w.length ∧ plF k w.length = (q : Int) ∧ go_net_Net_int_Drop ⟨w, x⟩ k = some (true, ⟨w.take q ++ w.drop (q + 1), wr (x + 1)⟩) := by
  obtain ⟨q, hq, e, ht⟩ := take_some x k h h'
  refine ⟨q, hq, e, ?_⟩
  unfold go_net_Net_int_Drop
  rw [ht, Option.bind_some]
  rfl
theorem plF_zero {n : Nat} (h : 0 < n) (h' : n ≤ 64) : plF 0 n = 0 := by
  unfold plF
  rw [Int.zero_tmod, Int.zero_add, wr_id (by omega) (by omega), Int.tmod_self]
theorem send_step (i : Nat) (a : Int) {w : List Int} {x : Int} (h : w.length ≤ 64) (nx : List Int × Int → Option netNetint) : go_net_Net_int_Send.b1 i a (w, x) nx = nx (step (w, x) a) := by
  unfold go_net_Net_int_Send.b1 go_net_Net_int_Send.j1 step
  simp only []
  by_cases h0 : w.length = 64
  · obtain ⟨q, hq, e, hd⟩ := drop_some (w := w) x 0 (by omega) h
    rw [plF_zero (by omega) h] at e
    have : q = 0 := by omega
    subst this
    rw [if_pos (by omega), if_pos h0, hd, Option.bind_some]
    simp only [List.take_zero, List.nil_append, Nat.zero_add]
    rw [apB_ok (by simp; omega), Option.bind_some]
  · rw [if_neg (by omega), if_neg h0, apB_ok (by simp; omega), Option.bind_some]
theorem send_loop (K : List Int × Int → Option netNetint) : ∀ (ms : List Int) (i : Nat) (s : List Int × Int), s.1.length ≤ 64 → forL go_net_Net_int_Send.b1 K i ms s = K (ms.foldl step s)
  | [], _, _, _ => rfl
  | m :: ms, i, (w, x), h => by
    show go_net_Net_int_Send.b1 i m (w, x) (fun s' => forL go_net_Net_int_Send.b1 K (i + 1) ms s') = _
    rw [send_step i m h, send_loop K ms (i + 1) _ (step_len h)]
    rfl
theorem send_eq {w : List Int} (x : Int) (ms : List Int) (h : w.length ≤ 64) : go_net_Net_int_Send ⟨w, x⟩ ms = some ⟨(ms.foldl step (w, x)).1, (ms.foldl step (w, x)).2⟩ := by
  unfold go_net_Net_int_Send
  rw [send_loop _ ms 0 (w, x) h]
theorem twice_nil (x k : Int) : go_net_Net_int_Twice ⟨[], x⟩ k = some (false, ⟨[], x⟩) := by
  unfold go_net_Net_int_Twice
  rw [place_eq, Option.bind_some]
  rfl
theorem twice_some {w : List Int} (x k : Int) (h : 0 < w.length) (h' : w.length ≤ 64) : ∃ q : Nat, ∃ hq : q < w.length, plF k w.length = (q : Int) ∧ go_net_Net_int_Twice ⟨w, x⟩ k = some (true, ⟨(step (w, x) w[q]).1, (step (w, x) w[q]).2⟩) := by
  obtain ⟨q, hq, e⟩ := pl_ok k w.length h h'
  refine ⟨q, hq, e, ?_⟩
  unfold go_net_Net_int_Twice
  rw [place_eq, Option.bind_some, if_neg (show ¬ w.length = 0 by omega), show plF k w.length = (q : Int) from e, if_pos (by omega)]
  simp only []
  rw [at_ok hq, Option.bind_some, send_eq x [w[q]] h', Option.bind_some]
  have : (0 : Int) ≤ (q : Int) := by omega
  simp [this]
/-- All that wait are shown. -/
theorem shows_loop (l : List Int) : ∀ (pre xs : List Int) (i : Nat), l = pre ++ xs → l.length ≤ 100000 → forL (go_net_Net_int_All_c1.b1 (yw (go_law15_shows.z1 l))) (fun ys16 => some ys16) i xs ((pre.length : Int), 0) = some ((l.length : Int), 0)
  | pre, [], i, h, hl => by
    subst h
    simp [forL]
  | pre, a :: xs, i, h, hl => by
    have hpl : pre.length < l.length := by rw [h]; simp
    have hat : l[pre.length] = a := by subst h; simp
    show go_net_Net_int_All_c1.b1 (yw (go_law15_shows.z1 l)) i a ((pre.length : Int), 0) (fun s' => forL (go_net_Net_int_All_c1.b1 (yw (go_law15_shows.z1 l))) (fun ys16 => some ys16) (i + 1) xs s') = _
    have ih := shows_loop l (pre ++ [a]) xs (i + 1) (by rw [h]; simp) hl
    have hw : wr ((pre.length : Int) + 1) = (((pre ++ [a]).length : Nat) : Int) := by rw [wr_id (by omega) (by omega)]; simp
    generalize hT : (fun s' => forL (go_net_Net_int_All_c1.b1 (yw (go_law15_shows.z1 l))) (fun ys16 => some ys16) (i + 1) xs s') = T
    have ih2 := (congrFun hT (((pre ++ [a]).length : Int), 0)).symm.trans ih
    unfold go_net_Net_int_All_c1.b1 yw go_law15_shows.z1
    simp only []
    rw [if_pos trivial, if_neg (by omega), at_ok hpl, Option.bind_some, if_pos hat, Option.bind_some]
    simp only [if_true]
    rw [hw, ih2]
theorem shows_eq {w : List Int} (x : Int) (h : w.length ≤ 64) : go_law15_shows ⟨w, x⟩ w x = some true := by
  unfold go_law15_shows go_net_Net_int_All go_net_Net_int_All_c1
  rw [Option.bind_some]
  have := shows_loop w [] w 0 rfl (by omega)
  simp only [List.length_nil] at this ⊢
  rw [show ((0 : Int), 0) = (((0 : Nat) : Int), 0) from rfl, this, Option.bind_some]
  simp [go_net_Net_int_Len, go_net_Net_int_Lost]
theorem awake : go_law15_awake = some true := by kernel_rfl
/-- Where the ways meet. -/
theorem meet {w : List Int} (x : Int) (h : w.length ≤ 64) (nx : List Int × Int × List Int × Int → Option Bool) : go_law15_NetScript.j2 nx w x w x = nx (w, x, w, x) := by
  unfold go_law15_NetScript.j2
  rw [shows_eq x h, Option.bind_some, if_pos rfl]
theorem row_loop (K : List Int × Int × List Int → Option Bool) : ∀ (ms : List Int16) (i : Nat) (s : List Int × Int) (acc : List Int), s.1.length ≤ 64 → acc.length + ms.length ≤ 1000 →
    forL go_law15_NetScript.b2 K i ms (s.1, s.2, acc) = K (((ms.map Int16.toInt).foldl step s).1, ((ms.map Int16.toInt).foldl step s).2, acc ++ ms.map Int16.toInt)
  | [], _, _, _, _, _ => by simp [forL]
  | m :: ms, i, (w, x), acc, h, ha => by
    show go_law15_NetScript.b2 i m (w, x, acc) (fun s' => forL go_law15_NetScript.b2 K (i + 1) ms s') = _
    simp only [List.length_cons] at ha
    have ih := row_loop K ms (i + 1) (step (w, x) m.toInt) (acc ++ [m.toInt]) (step_len h) (by simp; omega)
    generalize hT : (fun s' => forL go_law15_NetScript.b2 K (i + 1) ms s') = T
    have ih2 := (congrFun hT _).symm.trans ih
    unfold go_law15_NetScript.b2 go_law15_NetScript.j3
    simp only []
    rw [apB_ok (by simp; omega), Option.bind_some]
    by_cases h0 : w.length = 64
    · have hc : cutI w 1 (w.length : Int) = some (w.drop 1) := by
        rw [show (1 : Int) = ((1 : Nat) : Int) from rfl, cutE (by omega)]
      rw [if_pos (by omega), hc, Option.bind_some, apB_ok (by simp only [List.length_drop, List.length_singleton]; omega), Option.bind_some]
      rw [step_full h0] at ih2
      simp only [] at ih2
      rw [ih2, List.map_cons, List.foldl_cons, step_full h0, List.append_assoc]
      rfl
    · rw [if_neg (by omega), apB_ok (by simp only [List.length_singleton]; simp only [] at h; omega), Option.bind_some]
      rw [step_room h0] at ih2
      simp only [] at ih2
      rw [ih2, List.map_cons, List.foldl_cons, step_room h0, List.append_assoc]
      rfl
theorem fold_len : ∀ (ms : List Int) (s : List Int × Int), s.1.length ≤ 64 → (ms.foldl step s).1.length ≤ 64
  | [], _, h => h
  | m :: ms, s, h => fold_len ms _ (step_len h)
/-- A deed. -/
theorem deed (i : Nat) (a : law15Act) {w : List Int} (x : Int) (h : w.length ≤ 64) (nx : List Int × Int × List Int × Int → Option Bool) : ∃ w' x', w'.length ≤ 64 ∧ go_law15_NetScript.b1 i a (w, x, w, x) nx = nx (w', x', w', x') := by
  have hj1 : ∀ b, ∃ w' x', w'.length ≤ 64 ∧ go_law15_NetScript.j1 w x w x a nx b = nx (w', x', w', x') := by
    intro b
    unfold go_law15_NetScript.j1
    cases b with
    | true =>
      rw [if_pos rfl]
      have hc : cutI a.Row 0 (min (a.Row.length : Int) 40) = some (a.Row.take (min a.Row.length 40)) := by
        rw [show min (a.Row.length : Int) 40 = ((min a.Row.length 40 : Nat) : Int) by omega, cut0 (by omega)]
      rw [hc, Option.bind_some, row_loop _ _ 0 (w, x) [] h (by simp; omega)]
      simp only [List.nil_append]
      rw [send_eq x _ h, Option.bind_some]
      have hl := fold_len ((a.Row.take (min a.Row.length 40)).map Int16.toInt) (w, x) h
      exact ⟨_, _, hl, meet _ hl nx⟩
    | false =>
      rw [if_neg (by decide)]
      by_cases hw : w = []
      · subst hw
        rw [take_nil, drop_nil, twice_nil]
        refine ⟨[], x, by simp, ?_⟩
        have hm := meet (w := []) x (by simp) nx
        simp only [Option.bind_some, List.length_nil]
        split
        · unfold go_law15_NetScript.j4
          simp [hm]
        · split
          · simp [hm]
          · simp [hm]
      · have h0 : 0 < w.length := List.length_pos_iff.2 hw
        have hd : decide ((0 : Int) < (w.length : Int)) = true := by simp; omega
        split
        · obtain ⟨q, hq, e, ht⟩ := take_some x a.At.toInt h0 h
          rw [ht, Option.bind_some, hd]
          unfold go_law15_NetScript.j4
          simp only [if_true, Bool.false_eq_true, if_false]
          rw [lplace_eq _ h0, Option.bind_some, e, at_ok hq, Option.bind_some, if_pos rfl]
          have hw1 : wr ((q : Int) + 1) = ((q + 1 : Nat) : Int) := by rw [wr_id (by omega) (by omega)]; omega
          rw [cut0 (by omega), Option.bind_some, hw1, cutE (by omega), Option.bind_some, apB_ok (by simp; omega), Option.bind_some, apB_ok (by simp; omega), Option.bind_some]
          simp only [List.nil_append]
          exact ⟨_, _, by simp; omega, meet x (by simp; omega) nx⟩
        · split
          · obtain ⟨q, hq, e, ht⟩ := drop_some x a.At.toInt h0 h
            rw [ht, Option.bind_some, hd]
            simp only [if_true]
            rw [if_pos (by omega), lplace_eq _ h0, Option.bind_some, e]
            have hw1 : wr ((q : Int) + 1) = ((q + 1 : Nat) : Int) := by rw [wr_id (by omega) (by omega)]; omega
            rw [cut0 (by omega), Option.bind_some, hw1, cutE (by omega), Option.bind_some, apB_ok (by simp; omega), Option.bind_some, apB_ok (by simp; omega), Option.bind_some]
            simp only [List.nil_append]
            exact ⟨_, _, by simp; omega, meet (wr (x + 1)) (by simp; omega) nx⟩
          · obtain ⟨q, hq, e, ht⟩ := twice_some x a.At.toInt h0 h
            rw [ht, Option.bind_some, hd]
            simp only [if_true]
            rw [if_pos (by omega), lplace_eq _ h0, Option.bind_some, e, at_ok hq, Option.bind_some]
            have hsl := step_len (s := (w, x)) (m := w[q]) h
            refine ⟨(step (w, x) w[q]).1, (step (w, x) w[q]).2, hsl, ?_⟩
            rw [← meet _ hsl nx]
            by_cases h64 : w.length = 64
            · have hc : cutI w 1 (w.length : Int) = some (w.drop 1) := by
                rw [show (1 : Int) = ((1 : Nat) : Int) from rfl, cutE (by omega)]
              rw [if_pos (by omega), hc, Option.bind_some, apB_ok (by simp only [List.length_drop, List.length_singleton]; omega), Option.bind_some, step_full h64]
            · rw [if_neg (by omega), apB_ok (by simp only [List.length_singleton]; omega), Option.bind_some, step_room h64]
  unfold go_law15_NetScript.b1
  simp only []
  split
  · exact hj1 _
  · exact hj1 _
theorem netScript (p0 : List law15Act) : go_law15_NetScript p0 = some true := by
  unfold go_law15_NetScript
  rw [awake, Option.bind_some, if_pos rfl]
  have hc : cutI p0 0 (min (p0.length : Int) 100) = some (p0.take (min p0.length 100)) := by
    rw [show min (p0.length : Int) 100 = ((min p0.length 100 : Nat) : Int) by omega, cut0 (by omega)]
  rw [hc, Option.bind_some]
  refine forL_or (fun _ s => ∃ w x, s = (w, x, w, x) ∧ w.length ≤ 64) (fun r => r = some true) _ _ _ ⟨[], 0, rfl, by simp⟩ ?_ ?_
  · rintro j a _ nx _ _ _ ⟨w, x, rfl, hl⟩
    obtain ⟨w', x', hl', e⟩ := deed j a x hl nx
    exact .inr ⟨_, e, w', x', rfl, hl'⟩
  · rintro _ ⟨w, x, rfl, _⟩
    rfl
end Go.Proofs.Ytiijlkebolfcpaa.Ne
