/- EditsReplay, in plain words. -/
import Derived.Test.YtjlhookdigbjhaaEgA
import Derived.Test.YtjlhookdigbjhaaEgB
import Derived.Test.YtjlhookdigbjhaaEA
namespace Go.Proofs.Ytjlhookdigbjhaa.Eg
open Go Go.Proofs Go.Proofs.Ytjlhookdigbjhaa.Sx Go.Proofs.Ytjlhookdigbjhaa.E1 Go.Proofs.Ytjlhookdigbjhaa.S1 Go.Proofs.Ytjlhookdigbjhaa.E2 Go.Proofs.Ytjlhookdigbjhaa.E3 Go.Proofs.Ytjlhookdigbjhaa.E4 Go.Proofs.Ytjlhookdigbjhaa.E5 Go.Proofs.Ytjlhookdigbjhaa.E6 Go.Proofs.Ytjlhookdigbjhaa.E7 Go.Proofs.Ytjlhookdigbjhaa.E8 Go.Proofs.Ytjlhookdigbjhaa.E9 Go.Proofs.Ytjlhookdigbjhaa.EA Go.Proofs.Ytjlhookdigbjhaa.Ed Go.Proofs.Ytjlhookdigbjhaa.Ef
set_option linter.unusedVariables false
set_option linter.unusedSimpArgs false
theorem add_le {e : editsEdit} {r : List UInt8} (h : editB e = r) : e.Add.length ≤ r.length := by
  rw [← h, editB_len]
  have := flat_ge refB (fun a => by rw [refB_len]; omega) e.Add
  omega
theorem read_sz {r : List UInt8} (h : r.length ≤ 16384) : ∃ e ok, go_edits_Read r = some (e, ok) ∧ e.Add.length ≤ r.length := by
  obtain ⟨e, ok, hr, h1, h2⟩ := read_told (p0 := r) (by omega)
  refine ⟨e, ok, hr, ?_⟩
  cases ok with
  | true => exact add_le (h1 rfl).2
  | false => rw [h2 rfl]; simp
theorem b3_eq (i : Nat) (a : List UInt8) (m : Mp apiRef) (f : Int) (b : Bool) (nx : Mp apiRef × Int × Bool → Option Bool) : go_law10_EditsReplay.b3 i a (m, f, b) nx = (go_edits_Read a).bind fun y => (go_law10_do m f y.1).bind fun z => if b = true ∨ y.2 = false ∨ z.2 ≠ 0 then nx (m, f, true) else nx (z.1, y.1.Floor, false) := by
  unfold go_law10_EditsReplay.b3 go_law10_EditsReplay.j1
  simp only []
  congr 1
  funext y
  congr 1
  funext z
  cases b with
  | true => simp
  | false =>
    cases h : y.2 with
    | false => simp
    | true =>
      by_cases hz : z.2 = 0
      · simp [hz]
      · simp [hz]
/-- Once bad, it stays so. -/
theorem bad_loop {K : Mp apiRef × Int × Bool → Option Bool} {l : List apiRef} {m : Mp apiRef} {f : Int} (h : Rel l m) (hl : l.length ≤ 900000000) : ∀ (xs : List (List UInt8)) (i : Nat), (∀ r ∈ xs, r.length ≤ 16384) → forL go_law10_EditsReplay.b3 K i xs (m, f, true) = K (m, f, true)
  | [], i, _ => rfl
  | r :: xs, i, hx => by
    show go_law10_EditsReplay.b3 i r (m, f, true) (fun s' => forL go_law10_EditsReplay.b3 K (i + 1) xs s') = _
    obtain ⟨e, ok, hr, ha⟩ := read_sz (hx r (List.mem_cons_self ..))
    have hrl := hx r (List.mem_cons_self ..)
    obtain ⟨t, c, m', _, h2, _⟩ := do_do (f := f) (e := e) h (by omega)
    rw [b3_eq, hr, Option.bind_some, h2, Option.bind_some, if_pos (.inl rfl)]
    exact bad_loop h hl xs (i + 1) (fun r hr => hx r (List.mem_cons_of_mem _ hr))
theorem both_loop {K : List apiRef × Int → Option (editsSet × Int × Int)} {K' : Mp apiRef × Int × Bool → Option Bool} : ∀ (xs : List (List UInt8)) (i j : Nat) (l : List apiRef) (m : Mp apiRef) (f : Int), Rel l m → Up l → l.length + xs.flatten.length ≤ 900000000 → (∀ r ∈ xs, r.length ≤ 16384) →
    (∃ m' f', forL go_law10_EditsReplay.b3 K' i xs (m, f, false) = K' (m', f', true) ∧ forL go_edits_Replay.b1 K j xs (l, f) = some (⟨[], 0⟩, 0, 10)) ∨
    (∃ l' m' f', forL go_law10_EditsReplay.b3 K' i xs (m, f, false) = K' (m', f', false) ∧ forL go_edits_Replay.b1 K j xs (l, f) = K (l', f') ∧ Rel l' m' ∧ Up l' ∧ l'.length ≤ 900000000)
  | [], i, j, l, m, f, h, hu, hl, hx => .inr ⟨l, m, f, rfl, rfl, h, hu, by simp at hl; omega⟩
  | r :: xs, i, j, l, m, f, h, hu, hl, hx => by
    have hrl := hx r (List.mem_cons_self ..)
    obtain ⟨e, ok, hr, ha⟩ := read_sz hrl
    rw [List.flatten_cons, List.length_append] at hl
    obtain ⟨t, c, m', h1, h2, h3, _⟩ := do_do (f := f) (e := e) h (by omega)
    have hx' : ∀ r ∈ xs, r.length ≤ 16384 := fun r hr => hx r (List.mem_cons_of_mem _ hr)
    have e1 : forL go_law10_EditsReplay.b3 K' i (r :: xs) (m, f, false) = go_law10_EditsReplay.b3 i r (m, f, false) (fun s' => forL go_law10_EditsReplay.b3 K' (i + 1) xs s') := rfl
    have e2 : forL go_edits_Replay.b1 K j (r :: xs) (l, f) = go_edits_Replay.b1 j r (l, f) (fun s' => forL go_edits_Replay.b1 K (j + 1) xs s') := rfl
    rw [e1, e2, b3_eq]
    unfold go_edits_Replay.b1
    simp only []
    rw [hr, Option.bind_some, Option.bind_some, h2, Option.bind_some]
    cases ok with
    | false =>
      left
      refine ⟨m, f, ?_, ?_⟩
      · rw [if_pos (.inr (.inl rfl))]
        exact bad_loop h (by omega) xs (i + 1) hx'
      · rw [if_neg (by simp)]
    | true =>
      rw [if_pos rfl, h1, Option.bind_some]
      simp only []
      by_cases hc : c = 0
      · obtain ⟨g1, g2, g3, g4, _⟩ := h3 hc
        rw [if_neg (by simp [hc]), if_pos hc, g3]
        exact both_loop xs (i + 1) (j + 1) t.Refs m' e.Floor g2 g1 (by omega) hx'
      · left
        rw [if_pos (.inr (.inr hc)), if_neg hc]
        exact ⟨m, f, bad_loop h (by omega) xs (i + 1) hx', rfl⟩
theorem replay_turn {p2 a b raw : List UInt8} {k : Nat} (hk : k < 3) (hg : atI [a, b, p2] (k : Int) = some raw) (hr : raw.length ≤ 2097152) (nx : Int → Option Bool) : go_law10_EditsReplay.b2 p2 a b (k : Int) nx = nx ((k + 1 : Nat) : Int) := by
  unfold go_law10_EditsReplay.b2
  have hw : wr ((k : Int) + 1) = ((k + 1 : Nat) : Int) := by rw [wr_in] <;> omega
  have h3 : ([a, b, p2].length : Int) = 3 := rfl
  rw [if_pos (by rw [h3]; omega), hg, Option.bind_some, hw]
  obtain ⟨acc, pos, c, hrow, r1, r2, r3, r4⟩ := rows_ok (q0 := raw) (by omega)
  rw [hrow, Option.bind_some]
  simp only []
  unfold go_edits_Replay
  rw [hrow, Option.bind_some]
  simp only []
  rcases both_loop (K := fun (l58, x59) => some ((⟨l58, x59⟩ : editsSet), ((pos : Nat) : Int), 0)) (K' := fun (mp1803, x1804, b1805) => (go_edits_Replay raw).bind fun y1826 => if b1805 then (if y1826.2.2 = 10 then (if y1826.2.1 = 0 then (if (y1826.1.Refs.length : Int) = 0 then (if b1805 then (nx ((k + 1 : Nat) : Int)) else (if y1826.2.2 = 0 then (if y1826.2.1 = ((pos : Nat) : Int) then ((go_law10_Shows y1826.1 mp1803 x1804).bind fun y1833 => if y1833 then (nx ((k + 1 : Nat) : Int)) else (some false)) else (some false)) else (some false))) else (some false)) else (some false)) else (some false)) else (if b1805 then (nx ((k + 1 : Nat) : Int)) else (if y1826.2.2 = 0 then (if y1826.2.1 = ((pos : Nat) : Int) then ((go_law10_Shows y1826.1 mp1803 x1804).bind fun y1835 => if y1835 then (nx ((k + 1 : Nat) : Int)) else (some false)) else (some false)) else (some false)))) acc 0 0 [] [] 0 rel_nil List.Pairwise.nil (by simp at r2 ⊢; omega) r4 with ⟨m', f', e1, e2⟩ | ⟨l', m', f', e1, e2, hrel, hup, hll⟩
  · unfold go_edits_Replay at e1
    rw [hrow, Option.bind_some] at e1
    rw [e1, e2]
    simp
  · unfold go_edits_Replay at e1
    rw [hrow, Option.bind_some] at e1
    rw [e1, e2]
    simp only [Option.bind_some, Bool.false_eq_true, if_false, if_true]
    rw [shows_ok hrel hup (by omega)]
    simp
theorem editsReplay (p0 : List law10Step) (p1 : UInt16) (p2 : List UInt8) (h0 : ∀ x ∈ p0, x.Any.Name.length ≤ 1048576) (h2 : p2.length ≤ 1048576) : go_law10_EditsReplay p0 p1 p2 = some true := by
  unfold go_law10_EditsReplay
  rw [awake, Option.bind_some, if_pos rfl]
  have c1 : cutI p0 0 (min (p0.length : Int) 30) = some (p0.take (min p0.length 30)) := cut_min p0 30
  rw [c1, Option.bind_some]
  refine forL_or (fun j (l : List UInt8) => l.length ≤ 16393 * j) (fun r => r = some true) _ _ _ (by simp) ?_ ?_
  · intro j a l nx _ hj ha hl
    refine .inr ?_
    have h30 : j < 30 := by simp at hj; omega
    obtain ⟨e, he, hs⟩ := edit_sz a (h0 a (List.mem_of_mem_take ha))
    obtain ⟨y, c, hm, hy⟩ := make_any (x := editB e)
    unfold go_law10_EditsReplay.b1
    rw [he, Option.bind_some, bytes_ok (by omega), Option.bind_some, hm, Option.bind_some, apB_ok (by simp only []; omega), Option.bind_some]
    exact ⟨_, rfl, by simp; omega⟩
  · intro l hl
    have hl2 : l.length ≤ 491790 := by simp at hl; omega
    have hz : nzI (wr ((l.length : Int) + 1)) = some () := by unfold nzI; rw [wr_in (by omega) (by omega), if_neg (by omega)]
    have hmod : Int.tmod (p1.toNat : Int) (wr ((l.length : Int) + 1)) = ((p1.toNat % (l.length + 1) : Nat) : Int) := by
      rw [wr_in (by omega) (by omega)]
      exact tmod_nat _ _
    have hlt : p1.toNat % (l.length + 1) < l.length + 1 := Nat.mod_lt _ (by omega)
    rw [hz, Option.bind_some, hmod, show (0 : Int) = ((0 : Nat) : Int) from rfl, cutI_ok (by omega) (by omega), Option.bind_some, apB_ok (by simp; omega), Option.bind_some, apB_ok (by simp; omega), Option.bind_some]
    obtain ⟨f, hf⟩ : ∃ f, fuel = f + 4 := ⟨1099511627772, by rw [fuel_eq]⟩
    rw [hf, loopF_succ, replay_turn (k := 0) (by omega) rfl (by simp; omega), loopF_succ, replay_turn (k := 1) (by omega) rfl (by simp; omega), loopF_succ, replay_turn (k := 2) (by omega) rfl (by omega), loopF_succ]
    unfold go_law10_EditsReplay.b2
    rw [if_neg (by simp)]
end Go.Proofs.Ytjlhookdigbjhaa.Eg
