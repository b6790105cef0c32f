/- ViewState, in plain words. -/
import Derived.Test.YtfomkndngnfneaaDoorViC
import Derived.Test.YtfomkndngnfneaaDoorV6
namespace Go.Proofs.YtfomkndngnfneaaDoor.Vi
open Go Go.Proofs Go.Proofs.YtfomkndngnfneaaDoor.Sx Go.Proofs.YtfomkndngnfneaaDoor.V1 Go.Proofs.YtfomkndngnfneaaDoor.V2 Go.Proofs.YtfomkndngnfneaaDoor.V3 Go.Proofs.YtfomkndngnfneaaDoor.V4 Go.Proofs.YtfomkndngnfneaaDoor.V5 Go.Proofs.YtfomkndngnfneaaDoor.V6 Go.Proofs.YtfomkndngnfneaaDoor.St
set_option linter.unusedVariables false
set_option linter.unusedSimpArgs false
/-! ### The law's lines -/
theorem lines_loop : ∀ (ps : List apiPair) (i : Nat) (l : Str), (∀ p ∈ ps, PlT p.Key ∧ PlT p.Value ∧ p.Key.length ≤ 10000000 ∧ p.Value.length ≤ 10000000) → l.length + ps.length * 20000008 ≤ 100000000000 → forL go_law20_lines.b1 (fun s47 => some s47) i ps l = some (l ++ (ps.map lineF).flatten)
  | [], i, l, _, _ => by simp [forL]
  | p :: ps, i, l, h, hl => by
    have hp := h p (List.mem_cons_self ..)
    obtain ⟨_, _, h3, h4⟩ := hp
    have hn := lineF_len p
    simp only [List.length_cons] at hl
    show go_law20_lines.b1 i p l _ = _
    unfold go_law20_lines.b1
    rw [catI_ok (by simp; omega), Option.bind_some, catI_ok (by simp; omega), Option.bind_some, catI_ok (by simp; omega), Option.bind_some, catI_ok (by simp; omega), Option.bind_some, catI_ok (by simp; omega), Option.bind_some]
    have e : l ++ [34] ++ p.Key ++ [34, 32, 61, 32, 34] ++ p.Value ++ [34, 10] = l ++ lineF p := by simp [lineF]
    rw [e]
    refine (lines_loop ps (i + 1) _ (fun q hq => h q (List.mem_cons_of_mem _ hq)) (by rw [List.length_append]; omega)).trans ?_
    simp
theorem lines_eq {s : apiState} (h : PlS s) : go_law20_lines s = some (stF s) := by
  unfold go_law20_lines
  have a1 := ito_le h.i
  have a2 := ito_le h.t
  have hn := h.n
  rw [dig_eq h.i, Option.bind_some, catI_ok (by simp; omega), Option.bind_some, catI_ok (by simp; omega), Option.bind_some, dig_eq h.t, Option.bind_some, catI_ok (by simp; omega), Option.bind_some, catI_ok (by simp; omega), Option.bind_some]
  have e : [115, 116, 97, 116, 101, 32] ++ Lib.itoa s.Index ++ [32] ++ Lib.itoa s.Term ++ [10] = headF s := by
    unfold headF rowF
    simp [Lib.join_cons, Lib.joinTail]
  rw [e]
  have := head_le h
  exact lines_loop s.Pairs 0 _ h.p (by omega)
/-! ### Is a text plain? -/
theorem plain_loop (s : Str) (hl : s.length ≤ 1000000000) : ∀ (d x m : Nat), s.length ≤ x + d → x ≤ s.length → (∀ j (h : j < s.length), j < x → PlB s[j]) → ∃ b, loopF (go_law20_plain.b1 s) (m + d + 1) (x : Int) = some b ∧ (b = true → PlT s)
  | d, x, m, hd, hx, h => by
    rw [loopF_succ]
    unfold go_law20_plain.b1
    by_cases hxl : x < s.length
    · cases d with
      | zero => omega
      | succ d =>
      rw [if_pos (by omega), atI_ok hxl]
      simp only [Option.bind_some]
      split
      · exact ⟨_, rfl, fun h => by cases h⟩
      split
      · exact ⟨_, rfl, fun h => by cases h⟩
      split
      · exact ⟨_, rfl, fun h => by cases h⟩
      split
      · exact ⟨_, rfl, fun h => by cases h⟩
      rename_i h1 h2 h3 h4
      rw [wr_in (by omega) (by omega), show (x : Int) + 1 = ((x + 1 : Nat) : Int) by omega, show m + (d + 1) = m + d + 1 by omega]
      refine plain_loop s hl d (x + 1) m (by omega) (by omega) fun j hj hjx => ?_
      by_cases hje : j = x
      · subst hje
        rw [UInt8.lt_iff_toNat_lt] at h1 h2
        refine ⟨?_, ?_, ?_, ?_⟩
        · simpa using h1
        · simpa using h2
        · exact fun e => h3 (UInt8.toNat_inj.1 e)
        · exact fun e => h4 (UInt8.toNat_inj.1 e)
      · exact h j hj (by omega)
    · rw [if_neg (by omega)]
      refine ⟨true, rfl, fun _ b hb => ?_⟩
      obtain ⟨j, hj, rfl⟩ := List.getElem_of_mem hb
      exact h j hj (by omega)
  termination_by d => d
theorem plain_eq (s : Str) (hl : s.length ≤ 1000000000) : ∃ b, go_law20_plain s = some b ∧ (b = true → PlT s) := by
  unfold go_law20_plain
  have := plain_loop s hl s.length 0 (fuel - 1 - s.length) (by omega) (by omega) (fun j _ h => absurd h (Nat.not_lt_zero _))
  have e : fuel - 1 - s.length + s.length + 1 = fuel := by
    have := fuel_eq
    omega
  rw [e] at this
  exact this
/-! ### A state's pairs, one by one -/
theorem pairs_iter (p2 : UInt8) (y : apiState) (hy : PlS y) : ∀ (ps pre : List apiPair), y.Pairs = pre ++ ps → pre.length ≤ p2.toNat % 40 →
    forL (go_view_Pairs_c1.b1 (yw (go_law20_ViewState.z1 p2 y))) (fun ys => some ys) pre.length ps ((pre.length : Int), 0) = some (if y.Pairs.length ≤ p2.toNat % 40 then ((y.Pairs.length : Int), 0) else (((p2.toNat % 40 : Nat) : Int) + 1, 2))
  | [], pre, h, hp => by
    have e : y.Pairs.length = pre.length := by rw [h]; simp
    rw [e, if_pos hp]
    rfl
  | p :: ps, pre, h, hp => by
    have hpm : p ∈ y.Pairs := by rw [h]; simp
    have hpp := hy.p p hpm
    have hn := hy.n
    have hlen : y.Pairs.length = pre.length + (ps.length + 1) := by rw [h]; simp
    show go_view_Pairs_c1.b1 (yw (go_law20_ViewState.z1 p2 y)) pre.length p _ _ = _
    unfold go_view_Pairs_c1.b1
    rw [quote_plain hpp.1 (by omega), Option.bind_some, quote_plain hpp.2.1 (by omega), Option.bind_some, line_row hpp, Option.bind_some]
    have e : yw (go_law20_ViewState.z1 p2 y) (lineF p) ((pre.length : Int), 0) = some (if p2.toNat % 40 < pre.length + 1 then (false, (((pre.length + 1 : Nat) : Int), 2)) else (true, (((pre.length + 1 : Nat) : Int), 0))) := by
      show go_law20_ViewState.z1 p2 y (lineF p) (pre.length : Int) = _
      unfold go_law20_ViewState.z1
      have hat : atI y.Pairs (pre.length : Int) = some p := by
        rw [atI_ok (by omega)]
        simp [h]
      obtain ⟨_, _, h3, h4⟩ := hpp
      rw [if_neg (by omega), hat, Option.bind_some, catI_ok (by simp; omega), Option.bind_some, catI_ok (by simp; omega), Option.bind_some, catI_ok (by simp; omega), Option.bind_some, catI_ok (by simp; omega), Option.bind_some]
      have el : lineF p = [34] ++ p.Key ++ [34, 32, 61, 32, 34] ++ p.Value ++ [34, 10] := by simp [lineF]
      rw [if_pos el, wr_in (by omega) (by omega), u8mod p2 40 40 rfl (by decide)]
      by_cases hc : p2.toNat % 40 < pre.length + 1
      · rw [if_pos (by omega), if_pos hc]
        simp
      · rw [if_neg (by omega), if_neg hc]
        simp
    rw [e, Option.bind_some]
    by_cases hc : p2.toNat % 40 < pre.length + 1
    · rw [if_pos hc, if_neg (by simp)]
      have he : pre.length = p2.toNat % 40 := by omega
      rw [if_neg (by omega), ← he]
      rfl
    · rw [if_neg hc, if_pos rfl]
      have := pairs_iter p2 y hy ps (pre ++ [p]) (by rw [h]; simp) (by simp; omega)
      rw [List.length_append] at this
      exact this
/-! ### The law -/
theorem state_round (p1 : apiState) (p2 : UInt8) (l : List apiPair) (y : apiState) (x : Nat) (z : apiState) (hz : PlS z) (hx : ([y, (⟨p1.Index, p1.Term, l, p1.Sessions⟩ : apiState)])[x]? = some z) (nx : Int → Option Bool) :
    go_law20_ViewState.b2 p1 p2 l y (x : Int) nx = nx ((x + 1 : Nat) : Int) := by
  unfold go_law20_ViewState.b2
  dsimp only
  obtain ⟨hxl, hxe⟩ := List.getElem?_eq_some_iff.1 hx
  have hn := hz.n
  rw [if_pos (by omega), atI_ok hxl, hxe, Option.bind_some, view_eq hz, Option.bind_some, lines_eq hz, Option.bind_some, if_pos rfl]
  unfold go_view_Pairs
  rw [Option.bind_some]
  unfold go_view_Pairs_c1
  have hp := pairs_iter p2 z hz z.Pairs [] rfl (Nat.zero_le _)
  have hp' : forL (go_view_Pairs_c1.b1 (yw (go_law20_ViewState.z1 p2 z))) (fun ys => some ys) 0 z.Pairs (0, 0) = _ := hp
  have hm := Nat.mod_lt p2.toNat (show 0 < 40 by decide)
  have hx2 : x < 2 := by simpa using hxl
  rw [hp', Option.bind_some, u8mod p2 40 40 rfl (by decide), wr_in (x := ((p2.toNat % 40 : Nat) : Int) + 1) (by omega) (by omega), wr_in (x := (x : Int) + 1) (by omega) (by omega)]
  by_cases hc : z.Pairs.length ≤ p2.toNat % 40
  · rw [if_pos hc]
    dsimp only
    rw [if_pos rfl, if_pos (by omega)]
    congr 1
  · rw [if_neg hc]
    dsimp only
    rw [if_neg (by decide), if_neg (by decide), if_pos rfl, if_pos (by omega)]
    congr 1
theorem state_j1 (p0 : List law06Say) (p1 : apiState) (p2 : UInt8) (l : List apiPair) (hs : PlS ⟨p1.Index, p1.Term, l, p1.Sessions⟩) : go_law20_ViewState.j1 p0 p1 p2 l = some true := by
  unfold go_law20_ViewState.j1
  obtain ⟨s, h1, _, h2⟩ := some_eq p0
  rw [h1, Option.bind_some]
  have e : fuel = (fuel - 3) + 1 + 1 + 1 := by
    have := fuel_eq
    omega
  rw [e, loopF_succ, show (0 : Int) = ((0 : Nat) : Int) from rfl, state_round p1 p2 l s 0 s h2 rfl, loopF_succ, state_round p1 p2 l s 1 _ hs rfl, loopF_succ]
  unfold go_law20_ViewState.b2
  rfl
theorem viewState (p0 : List law06Say) (p1 : apiState) (p2 : UInt8) (hi : In64 p1.Index) (ht : In64 p1.Term) (hb : ∀ p ∈ p1.Pairs, p.Key.length ≤ 10000000 ∧ p.Value.length ≤ 10000000) : go_law20_ViewState p0 p1 p2 = some true := by
  unfold go_law20_ViewState
  have c : cutI p1.Pairs 0 (min (p1.Pairs.length : Int) 30) = some (p1.Pairs.take 30) := cut_min p1.Pairs 30
  rw [awake, Option.bind_some, if_pos rfl, c, Option.bind_some]
  have hl : (p1.Pairs.take 30).length ≤ 30 := by rw [List.length_take]; omega
  have hr : ∀ p ∈ p1.Pairs.take 30, p.Key.length ≤ 10000000 ∧ p.Value.length ≤ 10000000 := fun p h => hb p (List.mem_of_mem_take h)
  generalize p1.Pairs.take 30 = l at hl hr
  have hnil : go_law20_ViewState.j1 p0 p1 p2 [] = some true := state_j1 p0 p1 p2 [] ⟨hi, ht, by simp, fun _ h => absurd h List.not_mem_nil⟩
  refine forL_or (fun j (_ : Unit) => ∀ i (h : i < l.length), i < j → PlT l[i].Key ∧ PlT l[i].Value) (fun r => r = some true) l 0 () (fun i _ h => absurd h (Nat.not_lt_zero _)) ?_ ?_
  · rintro j a ⟨⟩ nx _ ha hI
    rw [Nat.sub_zero] at ha
    obtain ⟨hj, haj⟩ := List.getElem?_eq_some_iff.1 ha
    have hra := hr a (by rw [← haj]; exact List.getElem_mem _)
    obtain ⟨b1, e1, h1⟩ := plain_eq a.Key (by omega)
    obtain ⟨b2, e2, h2⟩ := plain_eq a.Value (by omega)
    unfold go_law20_ViewState.b1
    rw [e1, Option.bind_some, e2, Option.bind_some]
    cases b1 with
    | false => exact .inl hnil
    | true =>
      cases b2 with
      | false => exact .inl hnil
      | true =>
        refine .inr ⟨(), rfl, fun i hi2 hij => ?_⟩
        by_cases hije : i = j
        · subst hije
          rw [haj]
          exact ⟨h1 rfl, h2 rfl⟩
        · exact hI i hi2 (by omega)
  · rintro ⟨⟩ hI
    refine state_j1 p0 p1 p2 l ⟨hi, ht, by simp only []; omega, fun p hp => ?_⟩
    obtain ⟨i, hi2, rfl⟩ := List.getElem_of_mem hp
    have hi3 : i < l.length := hi2
    have h1 := hI i hi3 (by omega)
    have h2 := hr l[i] (List.getElem_mem _)
    exact ⟨h1.1, h1.2, h2.1, h2.2⟩
end Go.Proofs.YtfomkndngnfneaaDoor.Vi
