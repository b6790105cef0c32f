/- state.Apply, state.Fold in plain words. -/
import Derived.Test.YtfomkndngnfneaaDoorStA
namespace Go.Proofs.YtfomkndngnfneaaDoor.St
open Go Go.Proofs Go.Proofs.YtfomkndngnfneaaDoor.Sx Go.Proofs.YtfomkndngnfneaaDoor.V1 Go.Proofs.YtfomkndngnfneaaDoor.V2 Go.Proofs.YtfomkndngnfneaaDoor.V3 Go.Proofs.YtfomkndngnfneaaDoor.V4
set_option linter.unusedVariables false
set_option linter.unusedSimpArgs false
set_option linter.unusedSectionVars false
/-! ### A state's rows as maps -/
def mp (ps : List apiPair) : List (Str × Str) := ps.map fun p => (p.Key, p.Value)
def pr (m : List (Str × Str)) : List apiPair := m.map fun x => ⟨x.1, x.2, false⟩
def ses (q : List apiSession) : List (Int × apiSession) := q.map fun x => (x.Client, x)
theorem mp_pr (m : List (Str × Str)) : mp (pr m) = m := by simp [mp, pr, Function.comp_def]
theorem pr_mp {ps : List apiPair} (h : ∀ p ∈ ps, p.Gone = false) : pr (mp ps) = ps := by
  simp only [mp, pr, List.map_map]
  conv => rhs; rw [← List.map_id ps]
  refine List.map_congr_left fun p hp => ?_
  obtain ⟨a, b, c⟩ := p
  have : c = false := h _ hp
  simp [this]
theorem ses_map (q : List apiSession) : (ses q).map (·.2) = q := by simp [ses, Function.comp_def]
/-! ### A command that may be -/
theorem may_some (c : apiCmd) : ∃ b, go_cmds_May c = some b := by
  unfold go_cmds_May
  repeat' split
  all_goals exact ⟨_, rfl⟩
def mayC (c : apiCmd) : Bool := (go_cmds_May c).getD false
theorem may_eq (c : apiCmd) : go_cmds_May c = some (mayC c) := by
  obtain ⟨b, hb⟩ := may_some c
  unfold mayC
  rw [hb]
  rfl
def rightE (e : apiEntry) : Bool := (go_cmds_Right e).getD false
theorem right_eq (e : apiEntry) : go_cmds_Right e = some (rightE e) := by
  have : ∃ b, go_cmds_Right e = some b := by
    unfold go_cmds_Right
    rw [may_eq, Option.bind_some]
    repeat' split
    all_goals exact ⟨_, rfl⟩
  obtain ⟨b, hb⟩ := this
  unfold rightE
  rw [hb]
  rfl
structure MayC (c : apiCmd) : Prop where
  op0 : 0 ≤ c.Op
  op4 : c.Op < 4
  val : c.Value.length ≤ 16
  old : c.Old.length ≤ 16
  nop : c.Op = 0 → c = ⟨0, 0, 0, [], [], []⟩
  cl0 : 0 ≤ c.Client
  cl4 : c.Client < 4
  sq0 : 0 ≤ c.Seq
  sq1 : c.Seq ≤ 1048576
  key1 : c.Op ≠ 0 → 1 ≤ c.Key.length
  key8 : c.Key.length ≤ 8
theorem mayC_iff (c : apiCmd) : mayC c = true ↔ MayC c := by
  unfold mayC go_cmds_May
  constructor
  · intro h
    split at h
    · cases h
    split at h
    · cases h
    split at h
    · cases h
    split at h
    · cases h
    split at h
    · have e : c = ⟨0, 0, 0, [], [], []⟩ := by simpa using h
      subst e
      exact ⟨by simp, by simp, by simp, by simp, fun _ => rfl, by simp, by simp, by simp, by simp, fun h => absurd rfl h, by simp⟩
    split at h
    rotate_left
    · cases h
    split at h
    rotate_left
    · cases h
    split at h
    rotate_left
    · cases h
    split at h
    rotate_left
    · cases h
    split at h
    · cases h
    · rename_i h1 h2 h3 h4 h5 h6 h7 h8 h9 h10
      have h11 : c.Key.length ≤ 8 := by
        have := h
        simp only [Option.getD_some, decide_eq_true_eq] at this
        omega
      refine ⟨by omega, by omega, by omega, by omega, fun h0 => absurd h0 h5, h6, h7, h8, h9, fun _ => ?_, h11⟩
      rcases hk : c.Key with _ | ⟨x, l⟩
      · exact absurd hk h10
      · simp
  · intro h
    have a1 := h.op0
    have a2 := h.op4
    have a3 := h.val
    have a4 := h.old
    have a5 := h.key8
    rw [if_neg (by omega), if_neg (by omega), if_neg (by omega), if_neg (by omega)]
    by_cases h0 : c.Op = 0
    · rw [if_pos h0, h.nop h0]
      rfl
    · have a6 := h.key1 h0
      rw [if_neg h0, if_pos h.cl0, if_pos h.cl4, if_pos h.sq0, if_pos h.sq1, if_neg (by
        intro hk
        rw [hk] at a6
        simp at a6)]
      simp
      omega
structure RightE (e : apiEntry) : Prop where
  i1 : 1 ≤ e.Index
  i2 : e.Index ≤ 1048576
  t0 : 0 ≤ e.Term
  t1 : e.Term ≤ 1048576
  may : MayC e.Cmd
theorem rightE_iff (e : apiEntry) : rightE e = true ↔ RightE e := by
  unfold rightE go_cmds_Right
  rw [may_eq, Option.bind_some]
  constructor
  · intro h
    split at h
    rotate_left
    · cases h
    split at h
    rotate_left
    · cases h
    split at h
    rotate_left
    · cases h
    split at h
    rotate_left
    · cases h
    rename_i h1 h2 h3 h4
    exact ⟨h1, h2, h3, h4, (mayC_iff _).1 h⟩
  · intro h
    rw [if_pos h.i1, if_pos h.i2, if_pos h.t0, if_pos h.t1]
    exact (mayC_iff _).2 h.may
/-! ### A state that may be -/
structure StOk (s : apiState) : Prop where
  i0 : 0 ≤ s.Index
  i1 : s.Index ≤ 1048576
  t0 : 0 ≤ s.Term
  t1 : s.Term ≤ 1048576
  gone : ∀ p ∈ s.Pairs, p.Gone = false
  ks : KS (mp s.Pairs)
  kl : s.Pairs.length ≤ 64
  kb : ∀ p ∈ s.Pairs, 1 ≤ p.Key.length ∧ p.Key.length ≤ 8 ∧ p.Value.length ≤ 16
  ss : KS (ses s.Sessions)
  sb : ∀ x ∈ s.Sessions, 0 ≤ x.Client ∧ x.Client < 4 ∧ 0 ≤ x.Seq ∧ x.Seq ≤ 1048576 ∧ 0 ≤ x.Reply.Err ∧ x.Reply.Err ≤ 14 ∧ x.Reply.Value.length ≤ 16
theorem ints_le {α : Type} {f : α → Int} : ∀ {l : List α} {b n : Int}, (l.Pairwise fun x y => f x < f y) → (∀ x ∈ l, b ≤ f x ∧ f x < n) → b ≤ n → (l.length : Int) ≤ n - b
  | [], b, n, _, _, h => by simp; omega
  | x :: l, b, n, hp, hb, h => by
    have h1 := List.pairwise_cons.1 hp
    have h2 := hb x (List.mem_cons_self ..)
    have := ints_le (l := l) (b := f x + 1) (n := n) h1.2 (fun y hy => ⟨by have := h1.1 y hy; omega, (hb y (List.mem_cons_of_mem _ hy)).2⟩) (by omega)
    simp only [List.length_cons]
    omega
theorem ses_le {q : List apiSession} (h : KS (ses q)) (hb : ∀ x ∈ q, 0 ≤ x.Client ∧ x.Client < 4) : q.length ≤ 4 := by
  have h1 : q.Pairwise fun x y => x.Client < y.Client := by
    unfold KS ses at h
    rw [List.pairwise_map] at h
    exact h.imp fun {a b} hab => koI.1 hab
  have := ints_le (f := apiSession.Client) (b := 0) (n := 4) h1 hb (by omega)
  omega
theorem StOk.sl {s : apiState} (h : StOk s) : s.Sessions.length ≤ 4 := ses_le h.ss fun x hx => ⟨(h.sb x hx).1, (h.sb x hx).2.1⟩
/-! ### Rows to maps and back -/
theorem pairs_loop : ∀ (ps : List apiPair) (i : Nat) (m : List (Str × Str)), KS (m ++ mp ps) → (m ++ mp ps).length ≤ 1000000 → forL go_state_pairs.b1 (fun l38 => some (⟨l38⟩ : sortedMapstringstring)) i ps (itS m) = some ⟨itS (m ++ mp ps)⟩
  | [], i, m, h, hl => by simp [forL, mp]
  | p :: ps, i, m, h, hl => by
    show go_state_pairs.b1 i p (itS m) _ = _
    unfold go_state_pairs.b1
    have h2 := List.pairwise_append.1 h
    have hlast : ∀ x ∈ m, KO.lt x.1 p.Key = true := fun x hx => h2.2.2 x hx (p.Key, p.Value) (List.mem_cons_self ..)
    rw [putS h2.1 _ _ (by simp at hl; omega), Option.bind_some, kput_last hlast]
    have e : m ++ mp (p :: ps) = (m ++ [(p.Key, p.Value)]) ++ mp ps := by simp [mp]
    rw [e]
    exact pairs_loop ps (i + 1) _ (e ▸ h) (e ▸ hl)
theorem pairs_eq {s : apiState} (h : KS (mp s.Pairs)) (hl : s.Pairs.length ≤ 1000000) : go_state_pairs s = some ⟨itS (mp s.Pairs)⟩ := pairs_loop s.Pairs 0 [] h (by simpa [mp] using hl)
theorem sess_loop : ∀ (ps : List apiSession) (i : Nat) (m : List (Int × apiSession)), KS (m ++ ses ps) → (m ++ ses ps).length ≤ 1000000 → forL go_state_sessions.b1 (fun l38 => some (⟨l38⟩ : sortedMapintapiSession)) i ps (itI m) = some ⟨itI (m ++ ses ps)⟩
  | [], i, m, h, hl => by simp [forL, ses]
  | p :: ps, i, m, h, hl => by
    show go_state_sessions.b1 i p (itI m) _ = _
    unfold go_state_sessions.b1
    have h2 := List.pairwise_append.1 h
    have hlast : ∀ x ∈ m, KO.lt x.1 p.Client = true := fun x hx => h2.2.2 x hx (p.Client, p) (List.mem_cons_self ..)
    rw [putZ h2.1 _ _ (by simp at hl; omega), Option.bind_some, kput_last hlast]
    have e : m ++ ses (p :: ps) = (m ++ [(p.Client, p)]) ++ ses ps := by simp [ses]
    rw [e]
    exact sess_loop ps (i + 1) _ (e ▸ h) (e ▸ hl)
theorem sess_eq {s : apiState} (h : KS (ses s.Sessions)) (hl : s.Sessions.length ≤ 1000000) : go_state_sessions s = some ⟨itI (ses s.Sessions)⟩ := sess_loop s.Sessions 0 [] h (by simpa [ses] using hl)
theorem apB_ok {α : Type} {b : Nat} {xs ys : List α} (h : (xs.length + ys.length) * b ≤ 140737488355328) : apB b xs ys = some (xs ++ ys) := by
  unfold apB
  rw [if_pos h]
theorem rows_loop : ∀ (m : List (Str × Str)) (i : Nat) (l : List apiPair), l.length + m.length ≤ 1000000 → forL (go_sorted_Map_string_string_All_c1.b1 (yw go_state_rows.z1)) (fun ys23 => some ys23) i (itS m) (l, 0) = some (l ++ pr m, 0)
  | [], i, l, hl => by simp [forL, itS, pr]
  | x :: m, i, l, hl => by
    show go_sorted_Map_string_string_All_c1.b1 (yw go_state_rows.z1) i ⟨x.1, x.2⟩ (l, 0) _ = _
    simp only [List.length_cons] at hl
    have e : yw go_state_rows.z1 (x.1, x.2) (l, 0) = some (true, (l ++ [⟨x.1, x.2, false⟩], 0)) := by
      show go_state_rows.z1 (x.1, x.2) l = _
      unfold go_state_rows.z1
      simp only
      rw [apB_ok (by simp; omega)]
      rfl
    unfold go_sorted_Map_string_string_All_c1.b1
    rw [e, Option.bind_some, if_pos rfl]
    refine (rows_loop m (i + 1) _ (by simp; omega)).trans ?_
    simp [pr]
theorem rows_eq {m : List (Str × Str)} (hl : m.length ≤ 1000000) : go_state_rows ⟨itS m⟩ = some (pr m) := by
  unfold go_state_rows go_sorted_Map_string_string_All go_sorted_Map_string_string_All_c1
  rw [Option.bind_some, rows_loop m 0 [] (by simpa using hl), Option.bind_some]
  rfl
theorem all_loop : ∀ (m : List (Int × apiSession)) (i : Nat) (l : List apiSession), l.length + m.length ≤ 1000000 → forL (go_sorted_Map_int_api_Session_All_c1.b1 (yw go_state_Apply.z1)) (fun ys23 => some ys23) i (itI m) (l, 0) = some (l ++ m.map (·.2), 0)
  | [], i, l, hl => by simp [forL, itI]
  | x :: m, i, l, hl => by
    show go_sorted_Map_int_api_Session_All_c1.b1 (yw go_state_Apply.z1) i ⟨x.1, x.2⟩ (l, 0) _ = _
    simp only [List.length_cons] at hl
    have e : yw go_state_Apply.z1 (x.1, x.2) (l, 0) = some (true, (l ++ [x.2], 0)) := by
      show go_state_Apply.z1 (x.1, x.2) l = _
      unfold go_state_Apply.z1
      simp only
      rw [apB_ok (by simp; omega)]
      rfl
    unfold go_sorted_Map_int_api_Session_All_c1.b1
    rw [e, Option.bind_some, if_pos rfl]
    refine (all_loop m (i + 1) _ (by simp; omega)).trans ?_
    simp
theorem all_eq {m : List (Int × apiSession)} (hl : m.length ≤ 1000000) : go_sorted_Map_int_api_Session_All_c1 (yw go_state_Apply.z1) ([], 0) ⟨itI m⟩ = some (m.map (·.2), 0) := by
  unfold go_sorted_Map_int_api_Session_All_c1
  rw [all_loop m 0 [] (by simpa using hl)]
  rfl
/-! ### A command is done -/
def doF (m : List (Str × Str)) (c : apiCmd) : apiReply × List (Str × Str) :=
  match kget m c.Key with
  | none => if c.Op = 1 then (if 64 ≤ m.length then (⟨4, []⟩, m) else (⟨0, []⟩, kput m c.Key c.Value)) else (⟨6, []⟩, m)
  | some old => if c.Op = 3 ∧ old ≠ c.Old then (⟨11, old⟩, m) else if c.Op = 2 then (⟨0, old⟩, kdel m c.Key) else (⟨0, old⟩, kput m c.Key c.Value)
theorem do_eq {m : List (Str × Str)} (h : KS m) (hl : m.length ≤ 1000000) (c : apiCmd) : go_state_do ⟨itS m⟩ c = some ((doF m c).1, ⟨itS (doF m c).2⟩) := by
  unfold go_state_do doF
  rw [getS h c.Key (by omega), Option.bind_some]
  cases hg : kget m c.Key with
  | none =>
    simp only
    by_cases h1 : c.Op = 1
    · rw [if_pos h1, if_neg (by simp), if_pos h1]
      unfold go_sorted_Map_string_string_Len
      rw [Option.bind_some, show ((⟨itS m⟩ : sortedMapstringstring).items_.length : Int) = (m.length : Int) by rw [itS_len]]
      unfold go_state_do.j1
      by_cases h64 : 64 ≤ m.length
      · rw [if_pos (by simp; omega), if_pos h64]
      · rw [if_neg (by simp; omega), if_neg h64, if_pos h1]
        unfold go_state_do.j2
        rw [if_neg (by simp), if_neg (by omega)]
        unfold go_state_do.j3
        rw [if_neg (by simp), if_neg (by omega), putS h _ _ (by omega)]
        rfl
    · rw [if_neg h1, if_neg h1]
      unfold go_state_do.j1
      rw [if_neg (by simp), if_neg h1]
      unfold go_state_do.j2
      rw [if_pos (by simp)]
  | some old =>
    have hj1 : (if c.Op = 1 then (if true = true then go_state_do.j1 ⟨itS m⟩ c (old, true) false else ((go_sorted_Map_string_string_Len ⟨itS m⟩).bind fun y19 => go_state_do.j1 ⟨itS m⟩ c (old, true) (decide (64 ≤ y19)))) else go_state_do.j1 ⟨itS m⟩ c (old, true) false) = go_state_do.j1 ⟨itS m⟩ c (old, true) false := by
      split <;> simp
    show (if c.Op = 1 then (if true = true then _ else _) else _) = _
    rw [hj1]
    have hj2 : go_state_do.j1 ⟨itS m⟩ c (old, true) false = go_state_do.j2 ⟨itS m⟩ c (old, true) false := by
      unfold go_state_do.j1
      rw [if_neg (by simp)]
      split <;> simp
    rw [hj2]
    unfold go_state_do.j2
    rw [if_neg (by simp)]
    have hj3 : (if c.Op = 3 then go_state_do.j3 ⟨itS m⟩ c (old, true) (!decide ((old, true).1 = c.Old)) else go_state_do.j3 ⟨itS m⟩ c (old, true) false) = go_state_do.j3 ⟨itS m⟩ c (old, true) (decide (c.Op = 3 ∧ old ≠ c.Old)) := by
      by_cases h3 : c.Op = 3 <;> simp [h3]
    rw [hj3]
    unfold go_state_do.j3
    dsimp only
    by_cases h3 : c.Op = 3 ∧ old ≠ c.Old
    · rw [if_pos (by simpa using h3), if_pos h3]
    · rw [if_neg (by simpa using h3), if_neg h3]
      by_cases h2 : c.Op = 2
      · rw [if_pos h2, if_pos h2, delS h _ (by omega)]
        rfl
      · rw [if_neg h2, if_neg h2, putS h _ _ (by omega)]
        rfl
/-! ### An entry is applied -/
def laidF (s : apiState) (e : apiEntry) : apiState × apiReply :=
  (⟨e.Index, e.Term, pr (doF (mp s.Pairs) e.Cmd).2, (kput (ses s.Sessions) e.Cmd.Client ⟨e.Cmd.Client, e.Cmd.Seq, (doF (mp s.Pairs) e.Cmd).1⟩).map (·.2)⟩, (doF (mp s.Pairs) e.Cmd).1)
def applyF (s : apiState) (e : apiEntry) : apiState × apiReply :=
  if rightE e = true then
    if e.Index = s.Index + 1 ∧ s.Term ≤ e.Term then
      if e.Cmd.Op = 0 then (⟨e.Index, e.Term, s.Pairs, s.Sessions⟩, ⟨0, []⟩)
      else match kget (ses s.Sessions) e.Cmd.Client with
        | some x => if e.Cmd.Seq ≤ x.Seq then (if x.Seq = e.Cmd.Seq then (⟨e.Index, e.Term, s.Pairs, s.Sessions⟩, x.Reply) else (⟨e.Index, e.Term, s.Pairs, s.Sessions⟩, ⟨12, []⟩)) else laidF s e
        | none => laidF s e
    else (s, ⟨8, []⟩)
  else (s, ⟨14, []⟩)
theorem apply_eq {s : apiState} (h : StOk s) (e : apiEntry) : go_state_Apply s e = some (applyF s e) := by
  unfold go_state_Apply applyF
  rw [right_eq, Option.bind_some]
  have hi0 := h.i0
  have hi1 := h.i1
  have hsl := h.sl
  have hkl := h.kl
  by_cases hr : rightE e = true
  · rw [if_pos hr, if_pos hr, wr_in (by omega) (by omega)]
    by_cases hi : e.Index = s.Index + 1
    · rw [if_pos hi]
      unfold go_state_Apply.j1
      by_cases ht : e.Term < s.Term
      · rw [if_pos (by simpa using ht), if_neg (show ¬ (e.Index = s.Index + 1 ∧ s.Term ≤ e.Term) by omega)]
      · rw [if_neg (by simpa using ht), if_pos (show e.Index = s.Index + 1 ∧ s.Term ≤ e.Term from ⟨hi, by omega⟩)]
        by_cases h0 : e.Cmd.Op = 0
        · rw [if_pos h0, if_pos h0]
        · rw [if_neg h0, if_neg h0, sess_eq (s := ⟨e.Index, e.Term, s.Pairs, s.Sessions⟩) h.ss (by simp only []; omega), Option.bind_some, getI h.ss _ (by simp [ses]; omega), Option.bind_some]
          have hlaid : ∀ y37, go_state_Apply.j2 s e ⟨itI (ses s.Sessions)⟩ y37 false = some (laidF s e) := fun y37 => by
            unfold go_state_Apply.j2
            have hl2 : (doF (mp s.Pairs) e.Cmd).2.length ≤ 1000 := by
              have hml : (mp s.Pairs).length ≤ 64 := by simpa [mp] using hkl
              have hp := kput_len h.ks e.Cmd.Key e.Cmd.Value
              unfold doF
              split
              · split
                · split
                  · simp only []; omega
                  · simp only []; rw [hp]; split <;> omega
                · simp only []; omega
              · split
                · simp only []; omega
                · split
                  · have : (kdel (mp s.Pairs) e.Cmd.Key).length ≤ (mp s.Pairs).length := List.length_filter_le ..
                    simp only []; omega
                  · simp only []; rw [hp]; split <;> omega
            rw [if_neg (by simp), pairs_eq (s := ⟨e.Index, e.Term, s.Pairs, s.Sessions⟩) h.ks (by simp only []; omega), Option.bind_some, do_eq h.ks (by simp [mp]; omega), Option.bind_some, rows_eq (by omega), Option.bind_some, putZ h.ss _ _ (by simp [ses]; omega), Option.bind_some]
            unfold go_sorted_Map_int_api_Session_All
            rw [Option.bind_some, all_eq (by
              have hz : (ses s.Sessions).length ≤ 4 := by simpa [ses] using hsl
              rw [kput_len h.ss]
              split <;> omega), Option.bind_some]
            rfl
          cases hg : kget (ses s.Sessions) e.Cmd.Client with
          | none =>
            simp only
            rw [if_neg (by simp), hlaid]
          | some x =>
            dsimp only
            rw [if_pos rfl]
            by_cases hs : e.Cmd.Seq ≤ x.Seq
            · rw [if_pos hs]
              unfold go_state_Apply.j2
              rw [if_pos (by simpa using hs)]
              split <;> rfl
            · rw [if_neg hs, show decide (e.Cmd.Seq ≤ x.Seq) = false by simpa using hs, hlaid]
    · rw [if_neg hi, if_neg (show ¬ (e.Index = s.Index + 1 ∧ s.Term ≤ e.Term) by omega)]
      unfold go_state_Apply.j1
      rw [if_pos rfl]
  · rw [if_neg hr, if_neg hr]
/-! ### What is applied may be -/
theorem do_ok {m : List (Str × Str)} {c : apiCmd} (hm : KS m) (hl : m.length ≤ 64) (hb : ∀ x ∈ m, 1 ≤ x.1.length ∧ x.1.length ≤ 8 ∧ x.2.length ≤ 16) (hc : MayC c) (h0 : c.Op ≠ 0) :
    KS (doF m c).2 ∧ (doF m c).2.length ≤ 64 ∧ (∀ x ∈ (doF m c).2, 1 ≤ x.1.length ∧ x.1.length ≤ 8 ∧ x.2.length ≤ 16) ∧ 0 ≤ (doF m c).1.Err ∧ (doF m c).1.Err ≤ 14 ∧ (doF m c).1.Value.length ≤ 16 := by
  have hput : ∀ x ∈ kput m c.Key c.Value, 1 ≤ x.1.length ∧ x.1.length ≤ 8 ∧ x.2.length ≤ 16 := fun x hx => by
    rcases mem_kput hm hx with rfl | hx
    · exact ⟨hc.key1 h0, hc.key8, hc.val⟩
    · exact hb x hx
  have hpl := kput_len hm c.Key c.Value
  unfold doF
  cases hg : kget m c.Key with
  | none =>
    rw [hg] at hpl
    simp only
    split
    · split
      · exact ⟨hm, hl, hb, by simp, by simp, by simp⟩
      · exact ⟨hm.put _ _, by rw [hpl]; simp; omega, hput, by simp, by simp, by simp⟩
    · exact ⟨hm, hl, hb, by simp, by simp, by simp⟩
  | some old =>
    rw [hg] at hpl
    have ho := (hb _ (kget_mem hg)).2.2
    simp only
    split
    · exact ⟨hm, hl, hb, by simp, by simp, ho⟩
    · split
      · refine ⟨hm.del _, ?_, fun x hx => hb x (List.mem_filter.1 hx).1, by simp, by simp, ho⟩
        have : (kdel m c.Key).length ≤ m.length := List.length_filter_le ..
        simp only []; omega
      · exact ⟨hm.put _ _, by rw [hpl]; simpa using hl, hput, by simp, by simp, ho⟩
theorem ses_put {m : List (Int × apiSession)} (h : ∀ x ∈ m, x.1 = x.2.Client) : ses (m.map (·.2)) = m := by
  unfold ses
  rw [List.map_map]
  conv => rhs; rw [← List.map_id m]
  refine List.map_congr_left fun x hx => ?_
  simp [← h x hx]
theorem laid_ok {s : apiState} {e : apiEntry} (h : StOk s) (he : RightE e) (h0 : e.Cmd.Op ≠ 0) : StOk (laidF s e).1 := by
  obtain ⟨d1, d2, d3, d4, d5, d6⟩ := do_ok (m := mp s.Pairs) (c := e.Cmd) h.ks (by simpa [mp] using h.kl) (fun x hx => by
    obtain ⟨p, hp, rfl⟩ := List.mem_map.1 hx
    exact h.kb p hp) he.may h0
  have hks := KS.put h.ss e.Cmd.Client (⟨e.Cmd.Client, e.Cmd.Seq, (doF (mp s.Pairs) e.Cmd).1⟩ : apiSession)
  have hmem : ∀ x ∈ kput (ses s.Sessions) e.Cmd.Client (⟨e.Cmd.Client, e.Cmd.Seq, (doF (mp s.Pairs) e.Cmd).1⟩ : apiSession), x.1 = x.2.Client ∧ (x.2 = ⟨e.Cmd.Client, e.Cmd.Seq, (doF (mp s.Pairs) e.Cmd).1⟩ ∨ x.2 ∈ s.Sessions) := fun x hx => by
    rcases mem_kput h.ss hx with rfl | hx
    · exact ⟨rfl, .inl rfl⟩
    · obtain ⟨y, hy, rfl⟩ := List.mem_map.1 hx
      exact ⟨rfl, .inr hy⟩
  unfold laidF
  exact
    { i0 := by have := he.i1; simp only []; omega
      i1 := he.i2
      t0 := he.t0
      t1 := he.t1
      gone := fun p hp => by
        obtain ⟨x, _, rfl⟩ := List.mem_map.1 hp
        rfl
      ks := by simp only []; rw [mp_pr]; exact d1
      kl := by simpa [pr] using d2
      kb := fun p hp => by
        obtain ⟨x, hx, rfl⟩ := List.mem_map.1 hp
        exact d3 x hx
      ss := by simp only []; rw [ses_put fun x hx => (hmem x hx).1]; exact hks
      sb := fun y hy => by
        obtain ⟨x, hx, rfl⟩ := List.mem_map.1 hy
        rcases (hmem x hx).2 with hx | hx
        · rw [hx]
          exact ⟨he.may.cl0, he.may.cl4, he.may.sq0, he.may.sq1, d4, d5, d6⟩
        · exact h.sb _ hx }
theorem apply_ok {s : apiState} (h : StOk s) (e : apiEntry) : StOk (applyF s e).1 := by
  unfold applyF
  split
  · rename_i hr
    have he := (rightE_iff e).1 hr
    have hup : StOk ⟨e.Index, e.Term, s.Pairs, s.Sessions⟩ := ⟨by have := he.i1; simp only []; omega, he.i2, he.t0, he.t1, h.gone, h.ks, h.kl, h.kb, h.ss, h.sb⟩
    split
    · split
      · exact hup
      · rename_i h0
        split
        · split
          · split
            · exact hup
            · exact hup
          · exact laid_ok h he h0
        · exact laid_ok h he h0
    · exact h
  · exact h
/-! ### Entries -/
def foldF (s : apiState) (es : List apiEntry) : apiState := es.foldl (fun s e => (applyF s e).1) s
theorem fold_ok : ∀ {es : List apiEntry} {s : apiState}, StOk s → StOk (foldF s es)
  | [], _, h => h
  | e :: es, _, h => fold_ok (es := es) (apply_ok h e)
theorem fold_loop : ∀ (es : List apiEntry) (i : Nat) (s : apiState), StOk s → forL go_state_Fold.b1 (fun (x63, x64, l65, l66) => some (⟨x63, x64, l65, l66⟩ : apiState)) i es (s.Index, s.Term, s.Pairs, s.Sessions) = some (foldF s es)
  | [], i, s, h => rfl
  | e :: es, i, s, h => by
    show go_state_Fold.b1 i e (s.Index, s.Term, s.Pairs, s.Sessions) _ = _
    unfold go_state_Fold.b1
    simp only
    rw [apply_eq (s := ⟨s.Index, s.Term, s.Pairs, s.Sessions⟩) h, Option.bind_some]
    exact fold_loop es (i + 1) _ (apply_ok h e)
theorem fold_eq {s : apiState} (h : StOk s) (es : List apiEntry) : go_state_Fold s es = some (foldF s es) := fold_loop es 0 s h
theorem st0 : StOk ⟨0, 0, [], []⟩ := ⟨by simp, by simp, by simp, by simp, fun _ h => absurd h List.not_mem_nil, KS.nil, by simp, fun _ h => absurd h List.not_mem_nil, KS.nil, fun _ h => absurd h List.not_mem_nil⟩
end Go.Proofs.YtfomkndngnfneaaDoor.St
