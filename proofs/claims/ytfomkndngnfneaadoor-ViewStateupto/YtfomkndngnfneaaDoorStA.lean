/- Sorted maps in plain words: the search, Get, Put, Del, All. -/
import Derived.Test.YtfomkndngnfneaaDoorV4
namespace Go.Proofs.YtfomkndngnfneaaDoor.St
open Go Go.Proofs Go.Proofs.YtfomkndngnfneaaDoor.Sx Go.Proofs.YtfomkndngnfneaaDoor.V1 Go.Proofs.YtfomkndngnfneaaDoor.V2 Go.Proofs.YtfomkndngnfneaaDoor.V3 Go.Proofs.YtfomkndngnfneaaDoor.V4
set_option linter.unusedVariables false
set_option linter.unusedSimpArgs false
set_option linter.unusedSectionVars false
theorem wr_mod (x : Int) : (wr x) % 18446744073709551616 = x % 18446744073709551616 := by
  simp [wr, IntKind.wrap, IntKind.bits, IntKind.signed]
  split <;> omega
theorem wr_rng (x : Int) : -9223372036854775808 ≤ wr x ∧ wr x ≤ 9223372036854775807 := by
  simp [wr, IntKind.wrap, IntKind.bits, IntKind.signed]
  split <;> omega
theorem wr_in {x : Int} (h : -9223372036854775808 ≤ x) (h' : x ≤ 9223372036854775807) : wr x = x := by
  have h1 := wr_mod x
  have h3 := wr_rng x
  omega
theorem wrq_in {x : Int} (h : 0 ≤ x) (h' : x ≤ 18446744073709551615) : wrq x = x := by
  simp [wrq, IntKind.wrap, IntKind.bits, IntKind.signed]
  omega
theorem loopF_succ {S R : Type} (body : S → (S → Option R) → Option R) (n : Nat) (s : S) : loopF body (n + 1) s = body s (loopF body n) := rfl
/-! ### Keys in order -/
class KO (κ : Type) where
  lt : κ → κ → Bool
  irr : ∀ a, lt a a = false
  trans : ∀ {a b c}, lt a b = true → lt b c = true → lt a c = true
  tri : ∀ a b, lt a b = true ∨ a = b ∨ lt b a = true
instance : KO Str := ⟨ltT, lt_irr, lt_trans, lt_tri⟩
instance : KO Int := ⟨fun a b => decide (a < b), fun a => by simp, fun {a b c} h h' => by simp only [decide_eq_true_eq] at *; omega, fun a b => by simp only [decide_eq_true_eq]; omega⟩
section
variable {κ V : Type} [DecidableEq κ] [KO κ]
def kput : List (κ × V) → κ → V → List (κ × V)
  | [], k, v => [(k, v)]
  | x :: m, k, v => if x.1 = k then (k, v) :: m else if KO.lt k x.1 then (k, v) :: x :: m else x :: kput m k v
def kget (m : List (κ × V)) (k : κ) : Option V := (m.find? fun e => decide (e.1 = k)).map (·.2)
def kdel (m : List (κ × V)) (k : κ) : List (κ × V) := m.filter fun e => !decide (e.1 = k)
def KS (m : List (κ × V)) : Prop := m.Pairwise fun a b => KO.lt a.1 b.1 = true
theorem ko_ne {a b : κ} (h : KO.lt a b = true) : a ≠ b := by
  rintro rfl
  rw [KO.irr] at h
  cases h
theorem ko_asym {a b : κ} (h : KO.lt a b = true) : ¬ KO.lt b a = true := fun h' => by
  have := KO.trans h h'
  rw [KO.irr] at this
  cases this
theorem kput_l1 {k : κ} {u : V} {r : List (κ × V)} : ∀ l1 : List (κ × V), (∀ x ∈ l1, KO.lt x.1 k = true) → kput (l1 ++ r) k u = l1 ++ kput r k u
  | [], _ => rfl
  | x :: l1, h => by
    have hx := h x (List.mem_cons_self ..)
    show (if x.1 = k then _ else if KO.lt k x.1 then _ else x :: kput (l1 ++ r) k u) = _
    rw [if_neg (ko_ne hx), if_neg (ko_asym hx), kput_l1 l1 fun y hy => h y (List.mem_cons_of_mem _ hy)]
    rfl
theorem kget_l1 {k : κ} {r : List (κ × V)} (l1 : List (κ × V)) (h : ∀ x ∈ l1, KO.lt x.1 k = true) : kget (l1 ++ r) k = kget r k := by
  unfold kget
  rw [List.find?_append, List.find?_eq_none.2 (fun x hx => by simpa using ko_ne (h x hx))]
  rfl
theorem kdel_l1 {k : κ} {r : List (κ × V)} (l1 : List (κ × V)) (h : ∀ x ∈ l1, KO.lt x.1 k = true) : kdel (l1 ++ r) k = l1 ++ kdel r k := by
  unfold kdel
  rw [List.filter_append, List.filter_eq_self.2 (fun x hx => by simpa using ko_ne (h x hx))]
theorem kdel_r {k : κ} {r : List (κ × V)} (h : ∀ x ∈ r, KO.lt k x.1 = true) : kdel r k = r := List.filter_eq_self.2 (fun x hx => by simpa using (ko_ne (h x hx)).symm)
theorem kget_r {k : κ} {r : List (κ × V)} (h : ∀ x ∈ r, KO.lt k x.1 = true) : kget r k = none := by
  unfold kget
  rw [List.find?_eq_none.2 (fun x hx => by simpa using (ko_ne (h x hx)).symm)]
  rfl
/-- Where a key stands, or would. -/
theorem ksplit : ∀ {m : List (κ × V)}, KS m → ∀ k : κ, ∃ l1, (∀ x ∈ l1, KO.lt x.1 k = true) ∧
    ((∃ v r, m = l1 ++ (k, v) :: r ∧ (∀ x ∈ r, KO.lt k x.1 = true) ∧ kget m k = some v ∧ (∀ u, kput m k u = l1 ++ (k, u) :: r) ∧ kdel m k = l1 ++ r) ∨
     (∃ r, m = l1 ++ r ∧ (∀ x ∈ r, KO.lt k x.1 = true) ∧ kget m k = none ∧ (∀ u, kput m k u = l1 ++ (k, u) :: r) ∧ kdel m k = m))
  | [], _, k => ⟨[], fun _ h => absurd h List.not_mem_nil, .inr ⟨[], rfl, fun _ h => absurd h List.not_mem_nil, rfl, fun _ => rfl, rfl⟩⟩
  | x :: m, h, k => by
    have h1 := List.pairwise_cons.1 h
    rcases KO.tri x.1 k with hx | hx | hx
    · obtain ⟨l1, hl, hr⟩ := ksplit h1.2 k
      have hl' : ∀ y ∈ x :: l1, KO.lt y.1 k = true := fun y hy => (List.mem_cons.1 hy).elim (fun e => e ▸ hx) (hl y)
      refine ⟨x :: l1, hl', ?_⟩
      have hx1 : ∀ y ∈ [x], KO.lt y.1 k = true := fun y hy => by
        rw [List.mem_singleton.1 hy]; exact hx
      have e1 : kget (x :: m) k = kget m k := kget_l1 [x] hx1
      have e2 : ∀ u, kput (x :: m) k u = x :: kput m k u := fun u => kput_l1 [x] hx1
      have e3 : kdel (x :: m) k = x :: kdel m k := kdel_l1 [x] hx1
      rcases hr with ⟨v, r, rfl, ha, hb, hc, hd⟩ | ⟨r, rfl, ha, hb, hc, hd⟩
      · exact .inl ⟨v, r, rfl, ha, by rw [e1, hb], fun u => by rw [e2, hc]; rfl, by rw [e3, hd]; rfl⟩
      · exact .inr ⟨r, rfl, ha, by rw [e1, hb], fun u => by rw [e2, hc]; rfl, by rw [e3, hd]⟩
    · obtain ⟨a, v⟩ := x
      have hx' : a = k := hx
      subst hx'
      refine ⟨[], fun _ h => absurd h List.not_mem_nil, .inl ⟨v, m, rfl, h1.1, by simp [kget], fun u => by simp [kput], ?_⟩⟩
      unfold kdel
      rw [List.filter_cons, if_neg (by simp)]
      exact kdel_r h1.1
    · have hr : ∀ y ∈ x :: m, KO.lt k y.1 = true := fun y hy => (List.mem_cons.1 hy).elim (fun e => e ▸ hx) (fun e => KO.trans hx (h1.1 y e))
      refine ⟨[], fun _ h => absurd h List.not_mem_nil, .inr ⟨x :: m, rfl, hr, kget_r hr, fun u => ?_, kdel_r hr⟩⟩
      show (if x.1 = k then _ else if KO.lt k x.1 then _ else _) = _
      rw [if_neg (ko_ne hx).symm, if_pos hx]
      rfl
theorem mem_kput {m : List (κ × V)} (h : KS m) {k : κ} {v : V} {x : κ × V} (hx : x ∈ kput m k v) : x = (k, v) ∨ x ∈ m := by
  obtain ⟨l1, hl, ⟨u, r, rfl, ha, hb, hc, hd⟩ | ⟨r, rfl, ha, hb, hc, hd⟩⟩ := ksplit h k
  · rw [hc] at hx
    simp only [List.mem_append, List.mem_cons] at hx ⊢
    rcases hx with hx | hx | hx
    · exact .inr (.inl hx)
    · exact .inl hx
    · exact .inr (.inr (.inr hx))
  · rw [hc] at hx
    simp only [List.mem_append, List.mem_cons] at hx ⊢
    rcases hx with hx | hx | hx
    · exact .inr (.inl hx)
    · exact .inl hx
    · exact .inr (.inr hx)
theorem KS.put {m : List (κ × V)} (h : KS m) (k : κ) (v : V) : KS (kput m k v) := by
  obtain ⟨l1, hl, ⟨u, r, rfl, ha, hb, hc, hd⟩ | ⟨r, rfl, ha, hb, hc, hd⟩⟩ := ksplit h k
  · rw [hc]
    have h2 := List.pairwise_append.1 h
    refine List.pairwise_append.2 ⟨h2.1, ?_, ?_⟩
    · exact List.pairwise_cons.2 ⟨ha, (List.pairwise_cons.1 h2.2.1).2⟩
    · intro a hm b hb'
      rcases List.mem_cons.1 hb' with rfl | hb'
      · exact hl a hm
      · exact h2.2.2 a hm b (List.mem_cons_of_mem _ hb')
  · rw [hc]
    have h2 := List.pairwise_append.1 h
    refine List.pairwise_append.2 ⟨h2.1, List.pairwise_cons.2 ⟨ha, h2.2.1⟩, ?_⟩
    intro a hm b hb'
    rcases List.mem_cons.1 hb' with rfl | hb'
    · exact hl a hm
    · exact h2.2.2 a hm b hb'
theorem KS.del {m : List (κ × V)} (h : KS m) (k : κ) : KS (kdel m k) := h.sublist (List.filter_sublist ..)
theorem kput_len {m : List (κ × V)} (h : KS m) (k : κ) (v : V) : (kput m k v).length = m.length + (if (kget m k).isSome then 0 else 1) := by
  obtain ⟨l1, hl, ⟨u, r, rfl, ha, hb, hc, hd⟩ | ⟨r, rfl, ha, hb, hc, hd⟩⟩ := ksplit h k
  · rw [hc, hb]; simp
  · rw [hc, hb]; simp; omega
theorem kget_mem {m : List (κ × V)} {k : κ} {v : V} (h : kget m k = some v) : (k, v) ∈ m := by
  unfold kget at h
  obtain ⟨a, ha, rfl⟩ := Option.map_eq_some_iff.1 h
  have h1 := List.mem_of_find?_eq_some ha
  have h2 := List.find?_some ha
  have : a.1 = k := by simpa using h2
  rw [← this]
  exact h1
theorem kput_last {m : List (κ × V)} {k : κ} {v : V} (h : ∀ x ∈ m, KO.lt x.1 k = true) : kput m k v = m ++ [(k, v)] := by
  have := kput_l1 (r := []) (u := v) m h
  rw [List.append_nil] at this
  exact this
theorem KS.nil : KS ([] : List (κ × V)) := List.Pairwise.nil
end
/-! ### The search -/
theorem atI_ok {α : Type} {l : List α} {i : Nat} (h : i < l.length) : atI l (i : Int) = some l[i] := by
  unfold atI
  rw [if_pos (by omega), Int.toNat_natCast, List.getElem?_eq_getElem h]
def hd0 {α : Type} (c : α → Bool) : List α → Bool
  | a :: _ => c a
  | [] => false
theorem bs_loop {α : Type} {l1 l2 : List α} {f : α → Option Int} {c : α → Int} (hf : ∀ a, f a = some (c a)) (h1 : ∀ a ∈ l1, c a < 0) (h2 : ∀ a ∈ l2, ¬ c a < 0) (hl : (l1 ++ l2).length ≤ 1000000000000)
    {B : Int × Int → (Int × Int → Option (Int × Bool)) → Option (Int × Bool)}
    (hB : ∀ x y nx, B (x, y) nx = if x < y then ((atI (l1 ++ l2) (wr ((wrq (wr (x + y))) / 2))).bind fun z => (f z).bind fun r => if r < 0 then nx (wr ((wr ((wrq (wr (x + y))) / 2)) + 1), y) else nx (x, wr ((wrq (wr (x + y))) / 2))) else (if x < ((l1 ++ l2).length : Int) then ((atI (l1 ++ l2) x).bind fun z => (f z).bind fun r => some (x, decide (r = 0))) else some (x, false))) :
    ∀ (d x y m : Nat), y ≤ x + d → x ≤ l1.length → l1.length ≤ y → y ≤ (l1 ++ l2).length → loopF B (m + d + 1) ((x : Int), (y : Int)) = some ((l1.length : Int), hd0 (fun a => decide (c a = 0)) l2)
  | d, x, y, m, hd, hx, hy, hyl => by
    rw [loopF_succ, hB]
    by_cases hxy : x < y
    · rw [if_pos (by omega)]
      have e : wr ((wrq (wr ((x : Int) + (y : Int)))) / 2) = (((x + y) / 2 : Nat) : Int) := by
        rw [wr_in (x := (x : Int) + y) (by omega) (by omega), wrq_in (by omega) (by omega), wr_in (by omega) (by omega)]
        omega
      have hm : (x + y) / 2 < (l1 ++ l2).length := by omega
      rw [e, atI_ok hm, Option.bind_some, hf, Option.bind_some]
      cases d with
      | zero => omega
      | succ d =>
      by_cases hc : c (l1 ++ l2)[(x + y) / 2] < 0
      · have hlt : (x + y) / 2 < l1.length := by
          rcases Nat.lt_or_ge ((x + y) / 2) l1.length with h | h
          · exact h
          · exfalso
            rw [List.getElem_append_right h] at hc
            exact h2 _ (List.getElem_mem _) hc
        rw [if_pos hc, wr_in (by omega) (by omega), show (((x + y) / 2 : Nat) : Int) + 1 = (((x + y) / 2 + 1 : Nat) : Int) by omega, show m + (d + 1) = m + d + 1 by omega]
        exact bs_loop hf h1 h2 hl hB d _ _ m (by omega) (by omega) hy hyl
      · have hge : l1.length ≤ (x + y) / 2 := by
          rcases Nat.lt_or_ge ((x + y) / 2) l1.length with h | h
          · exfalso
            rw [List.getElem_append_left h] at hc
            exact hc (h1 _ (List.getElem_mem _))
          · exact h
        rw [if_neg hc, show m + (d + 1) = m + d + 1 by omega]
        exact bs_loop hf h1 h2 hl hB d _ _ m (by omega) hx hge (by omega)
    · rw [if_neg (by omega)]
      have hxe : x = l1.length := by omega
      subst hxe
      cases l2 with
      | nil => rw [if_neg (by simp)]; rfl
      | cons a l2 =>
        rw [if_pos (by simp; omega), atI_ok (by simp), Option.bind_some, hf, Option.bind_some]
        simp [hd0]
  termination_by d => d
theorem bs_fuel {α : Type} {l1 l2 : List α} {f : α → Option Int} {c : α → Int} (hf : ∀ a, f a = some (c a)) (h1 : ∀ a ∈ l1, c a < 0) (h2 : ∀ a ∈ l2, ¬ c a < 0) (hl : (l1 ++ l2).length ≤ 1000000000)
    {B : Int × Int → (Int × Int → Option (Int × Bool)) → Option (Int × Bool)}
    (hB : ∀ x y nx, B (x, y) nx = if x < y then ((atI (l1 ++ l2) (wr ((wrq (wr (x + y))) / 2))).bind fun z => (f z).bind fun r => if r < 0 then nx (wr ((wr ((wrq (wr (x + y))) / 2)) + 1), y) else nx (x, wr ((wrq (wr (x + y))) / 2))) else (if x < ((l1 ++ l2).length : Int) then ((atI (l1 ++ l2) x).bind fun z => (f z).bind fun r => some (x, decide (r = 0))) else some (x, false))) :
    loopF B fuel ((0 : Int), ((l1 ++ l2).length : Int)) = some ((l1.length : Int), hd0 (fun a => decide (c a = 0)) l2) := by
  have := bs_loop hf h1 h2 (by omega) hB (l1 ++ l2).length 0 (l1 ++ l2).length (fuel - 1 - (l1 ++ l2).length) (by omega) (by omega) (by simp) (by omega)
  have e : fuel - 1 - (l1 ++ l2).length + (l1 ++ l2).length + 1 = fuel := by
    have := fuel_eq
    omega
  rw [e] at this
  exact this
/-! ### Maps of texts -/
def itS (m : List (Str × Str)) : List sorteditemstringstring := m.map fun x => ⟨x.1, x.2⟩
def cmpS (a b : Str) : Int := if ltT a b then -1 else if a = b then 0 else 1
theorem cmpS_eq (a b : Str) : go_cmp_Compare_string a b = some (cmpS a b) := by
  unfold go_cmp_Compare_string go_cmp_isNaN_string cmpS
  simp only [Option.bind_some, decide_true, Bool.not_true, Bool.false_eq_true, if_false]
  split
  · rfl
  · rename_i h
    by_cases e : a = b
    · simp [h, e]
    · simp [h, e]
theorem cmpS_lt {a b : Str} : cmpS a b < 0 ↔ ltT a b = true := by
  unfold cmpS
  split
  · simp [*]
  · rename_i h
    have h' : ltT a b = false := by simpa using h
    rw [h']
    split <;> simp
theorem cmpS_eq0 {a b : Str} : cmpS a b = 0 ↔ a = b := by
  unfold cmpS
  split
  · rename_i h
    simp only [Int.reduceNeg, Int.reduceEq, false_iff]
    rintro rfl
    rw [lt_irr] at h
    cases h
  · split <;> simp [*]
theorem itS_len (m : List (Str × Str)) : (itS m).length = m.length := by simp [itS]
theorem itS_cons (a : Str × Str) (b : List (Str × Str)) : itS (a :: b) = ⟨a.1, a.2⟩ :: itS b := rfl
theorem itS_app (a b : List (Str × Str)) : itS (a ++ b) = itS a ++ itS b := by simp [itS]
theorem findS {m l1 l2 : List (Str × Str)} {k : Str} (e : m = l1 ++ l2) (h1 : ∀ x ∈ l1, ltT x.1 k = true) (h2 : ∀ x ∈ l2, ¬ ltT x.1 k = true) (hl : m.length ≤ 1000000000) :
    go_sorted_Map_string_string_find ⟨itS m⟩ k = some ((l1.length : Int), hd0 (fun x => decide (x.1 = k)) l2) := by
  subst e
  unfold go_sorted_Map_string_string_find go_slices_BinarySearchFunc_sorted_item_string_string_sorted_item_string_string_string_sorted_Map_string_string_find_c1
  have h := bs_fuel (l1 := itS l1) (l2 := itS l2) (f := fun a => go_sorted_Map_string_string_find_c1 a k) (c := fun a => cmpS a.key_ k)
    (B := go_slices_BinarySearchFunc_sorted_item_string_string_sorted_item_string_string_string_sorted_Map_string_string_find_c1.b1 (itS (l1 ++ l2)) k)
    (fun a => by unfold go_sorted_Map_string_string_find_c1; rw [cmpS_eq]; rfl)
    (fun a ha => by
      obtain ⟨x, hx, rfl⟩ := List.mem_map.1 ha
      exact cmpS_lt.2 (h1 x hx))
    (fun a ha => by
      obtain ⟨x, hx, rfl⟩ := List.mem_map.1 ha
      exact fun h => h2 x hx (cmpS_lt.1 h))
    (by rw [← itS_app, itS_len]; exact hl)
    (fun x y nx => by rw [itS_app]; rfl)
  rw [← itS_app] at h
  show (loopF _ fuel (0, ((itS (l1 ++ l2)).length : Int))).bind _ = _
  rw [h, Option.bind_some, itS_len]
  congr 2
  cases l2 with
  | nil => rfl
  | cons x l2 =>
    show decide (cmpS x.1 k = 0) = decide (x.1 = k)
    simp only [cmpS_eq0]
theorem not_lt_of {m : List (Str × Str)} {k : Str} {v : Str} (h : ∀ x ∈ m, KO.lt k x.1 = true) : ∀ x ∈ (k, v) :: m, ¬ ltT x.1 k = true := fun x hx => by
  rcases List.mem_cons.1 hx with rfl | hx
  · exact fun h => ko_ne (κ := Str) h rfl
  · exact ko_asym (κ := Str) (h x hx)
theorem getS {m : List (Str × Str)} (h : KS m) (k : Str) (hl : m.length ≤ 1000000000) : go_sorted_Map_string_string_Get ⟨itS m⟩ k = some (match kget m k with | some v => (v, true) | none => ([], false)) := by
  unfold go_sorted_Map_string_string_Get
  obtain ⟨l1, h1, ⟨u, r, e, ha, hb, hc, hd⟩ | ⟨r, e, ha, hb, hc, hd⟩⟩ := ksplit h k
  · rw [findS e h1 (not_lt_of ha) hl, Option.bind_some, hb]
    simp only [hd0, decide_true, if_true]
    rw [e, itS_app, show ((l1.length : Nat) : Int) = ((itS l1).length : Int) by rw [itS_len], atI_ok (by simp [itS])]
    simp [itS]
  · rw [findS e h1 (fun x hx => ko_asym (κ := Str) (ha x hx)) hl, Option.bind_some, hb]
    cases r with
    | nil => rfl
    | cons x r =>
      have : x.1 ≠ k := (ko_ne (ha x (List.mem_cons_self ..))).symm
      simp [hd0, this]
theorem putI_ok {α : Type} {l1 r : List α} {a b : α} : putI (l1 ++ a :: r) (l1.length : Int) b = some (l1 ++ b :: r) := by
  unfold putI
  rw [if_pos (by simp; omega)]
  simp
theorem putS {m : List (Str × Str)} (h : KS m) (k v : Str) (hl : m.length ≤ 1000000000) : go_sorted_Map_string_string_Put ⟨itS m⟩ k v = some ((kget m k).isNone, ⟨itS (kput m k v)⟩) := by
  unfold go_sorted_Map_string_string_Put
  obtain ⟨l1, h1, ⟨u, r, e, ha, hb, hc, hd⟩ | ⟨r, e, ha, hb, hc, hd⟩⟩ := ksplit h k
  · rw [findS e h1 (not_lt_of ha) hl, Option.bind_some, hb, hc]
    simp only [hd0, decide_true, if_true]
    rw [e, itS_app, show ((l1.length : Nat) : Int) = ((itS l1).length : Int) by rw [itS_len], atI_ok (by simp [itS]), Option.bind_some]
    simp only [itS_cons, itS_app]
    rw [putI_ok]
    simp
  · rw [findS e h1 (fun x hx => ko_asym (κ := Str) (ha x hx)) hl, Option.bind_some, hb, hc]
    have hf : hd0 (fun x => decide (x.1 = k)) r = false := by
      cases r with
      | nil => rfl
      | cons x r => simpa [hd0] using (ko_ne (ha x (List.mem_cons_self ..))).symm
    rw [hf]
    simp only [Bool.false_eq_true, if_false]
    unfold InsS.insS
    have hll : l1.length ≤ m.length := by rw [e]; simp
    simp only
    rw [if_pos (by rw [itS_len]; omega), Option.bind_some, e, itS_app, Int.toNat_natCast, List.take_left' (itS_len l1), List.drop_left' (itS_len l1), itS_app]
    rfl
theorem cutI_ok {α : Type} {l : List α} {i j : Nat} (hi : i ≤ j) (hj : j ≤ l.length) : cutI l (i : Int) (j : Int) = some ((l.take j).drop i) := by
  unfold cutI
  rw [if_pos (by omega)]
  simp
theorem delS {m : List (Str × Str)} (h : KS m) (k : Str) (hl : m.length ≤ 1000000000) : go_sorted_Map_string_string_Del ⟨itS m⟩ k = some ((kget m k).isSome, ⟨itS (kdel m k)⟩) := by
  unfold go_sorted_Map_string_string_Del
  obtain ⟨l1, h1, ⟨u, r, e, ha, hb, hc, hd⟩ | ⟨r, e, ha, hb, hc, hd⟩⟩ := ksplit h k
  · rw [findS e h1 (not_lt_of ha) hl, Option.bind_some, hb, hd]
    simp only [hd0, decide_true, if_true]
    unfold go_slices_Delete_sorted_item_string_string_sorted_item_string_string
    have hml : m.length = l1.length + (r.length + 1) := by rw [e]; simp
    have hlen : (itS m).length = l1.length + (r.length + 1) := by rw [itS_len, hml]
    have ew : wr ((l1.length : Int) + 1) = ((l1.length + 1 : Nat) : Int) := by rw [wr_in (by omega) (by omega)]; omega
    rw [ew, cutI_ok (by omega) (by omega), Option.bind_some]
    have ec : cap3 (itS m).length ((l1.length + 1 : Nat) : Int) (((itS m).length : Nat) : Int) = some () := by
      unfold cap3
      rw [if_pos (by omega)]
    rw [ec, Option.bind_some, if_neg (by omega), show (0 : Int) = ((0 : Nat) : Int) from rfl, cutI_ok (by omega) (by omega), Option.bind_some, cutI_ok (by omega) (by omega), Option.bind_some]
    have e2 : itS m = itS l1 ++ ⟨k, u⟩ :: itS r := by rw [e, itS_app]; rfl
    have e3 : (List.take l1.length (itS m)).drop 0 = itS l1 := by rw [e2, List.drop_zero, List.take_left' (itS_len l1)]
    have e4 : (List.take (itS m).length (itS m)).drop (l1.length + 1) = itS r := by
      rw [List.take_length, e2, List.append_cons, List.drop_left' (by simp [itS_len])]
    rw [e3, e4]
    unfold apB
    rw [if_pos (by rw [itS_len, itS_len]; omega), Option.bind_some, Option.bind_some, itS_app]
    rfl
  · rw [findS e h1 (fun x hx => ko_asym (κ := Str) (ha x hx)) hl, Option.bind_some, hb, hd]
    cases r with
    | nil => rfl
    | cons x r =>
      have : x.1 ≠ k := (ko_ne (ha x (List.mem_cons_self ..))).symm
      simp [hd0, this]
/-! ### Maps of sessions -/
def itI (m : List (Int × apiSession)) : List sorteditemintapiSession := m.map fun x => ⟨x.1, x.2⟩
def cmpZ (a b : Int) : Int := if a < b then -1 else if a = b then 0 else 1
theorem cmpZ_eq (a b : Int) : go_cmp_Compare_int a b = some (cmpZ a b) := by
  unfold go_cmp_Compare_int go_cmp_isNaN_int cmpZ
  simp only [Option.bind_some, decide_true, Bool.not_true, Bool.false_eq_true, if_false]
  split
  · rfl
  · by_cases e : a = b
    · rw [if_neg (by omega), if_pos e]
    · rw [if_pos (by omega), if_neg e]
theorem cmpZ_lt {a b : Int} : cmpZ a b < 0 ↔ a < b := by
  unfold cmpZ
  split
  · simp [*]
  · split <;> simp [*]
theorem cmpZ_eq0 {a b : Int} : cmpZ a b = 0 ↔ a = b := by
  unfold cmpZ
  split
  · simp; omega
  · split <;> simp [*]
theorem itI_len (m : List (Int × apiSession)) : (itI m).length = m.length := by simp [itI]
theorem itI_cons (a : Int × apiSession) (b : List (Int × apiSession)) : itI (a :: b) = ⟨a.1, a.2⟩ :: itI b := rfl
theorem itI_app (a b : List (Int × apiSession)) : itI (a ++ b) = itI a ++ itI b := by simp [itI]
theorem findI {m l1 l2 : List (Int × apiSession)} {k : Int} (e : m = l1 ++ l2) (h1 : ∀ x ∈ l1, x.1 < k) (h2 : ∀ x ∈ l2, ¬ x.1 < k) (hl : m.length ≤ 1000000000) :
    go_sorted_Map_int_api_Session_find ⟨itI m⟩ k = some ((l1.length : Int), hd0 (fun x => decide (x.1 = k)) l2) := by
  subst e
  unfold go_sorted_Map_int_api_Session_find go_slices_BinarySearchFunc_sorted_item_int_api_Session_sorted_item_int_api_Session_int_sorted_Map_int_api_Session_find_c1
  have h := bs_fuel (l1 := itI l1) (l2 := itI l2) (f := fun a => go_sorted_Map_int_api_Session_find_c1 a k) (c := fun a => cmpZ a.key_ k)
    (B := go_slices_BinarySearchFunc_sorted_item_int_api_Session_sorted_item_int_api_Session_int_sorted_Map_int_api_Session_find_c1.b1 (itI (l1 ++ l2)) k)
    (fun a => by unfold go_sorted_Map_int_api_Session_find_c1; rw [cmpZ_eq]; rfl)
    (fun a ha => by
      obtain ⟨x, hx, rfl⟩ := List.mem_map.1 ha
      exact cmpZ_lt.2 (h1 x hx))
    (fun a ha => by
      obtain ⟨x, hx, rfl⟩ := List.mem_map.1 ha
      exact fun h => h2 x hx (cmpZ_lt.1 h))
    (by rw [← itI_app, itI_len]; exact hl)
    (fun x y nx => by rw [itI_app]; rfl)
  rw [← itI_app] at h
  show (loopF _ fuel (0, ((itI (l1 ++ l2)).length : Int))).bind _ = _
  rw [h, Option.bind_some, itI_len]
  congr 2
  cases l2 with
  | nil => rfl
  | cons x l2 =>
    show decide (cmpZ x.1 k = 0) = decide (x.1 = k)
    simp only [cmpZ_eq0]
theorem koI {a b : Int} : KO.lt a b = true ↔ a < b := decide_eq_true_iff
theorem getI {m : List (Int × apiSession)} (h : KS m) (k : Int) (hl : m.length ≤ 1000000000) : go_sorted_Map_int_api_Session_Get ⟨itI m⟩ k = some (match kget m k with | some v => (v, true) | none => (⟨0, 0, ⟨0, []⟩⟩, false)) := by
  unfold go_sorted_Map_int_api_Session_Get
  obtain ⟨l1, h1, ⟨u, r, e, ha, hb, hc, hd⟩ | ⟨r, e, ha, hb, hc, hd⟩⟩ := ksplit h k
  · rw [findI e (fun x hx => koI.1 (h1 x hx)) (fun x hx => by
        rcases List.mem_cons.1 hx with rfl | hx
        · exact Int.lt_irrefl _
        · have := koI.1 (ha x hx); omega) hl, Option.bind_some, hb]
    simp only [hd0, decide_true, if_true]
    rw [e, itI_app, show ((l1.length : Nat) : Int) = ((itI l1).length : Int) by rw [itI_len], atI_ok (by simp [itI])]
    simp [itI]
  · rw [findI e (fun x hx => koI.1 (h1 x hx)) (fun x hx => by have := koI.1 (ha x hx); omega) hl, Option.bind_some, hb]
    cases r with
    | nil => rfl
    | cons x r =>
      have : x.1 ≠ k := (ko_ne (ha x (List.mem_cons_self ..))).symm
      simp [hd0, this]
theorem putZ {m : List (Int × apiSession)} (h : KS m) (k : Int) (v : apiSession) (hl : m.length ≤ 1000000000) : go_sorted_Map_int_api_Session_Put ⟨itI m⟩ k v = some ((kget m k).isNone, ⟨itI (kput m k v)⟩) := by
  unfold go_sorted_Map_int_api_Session_Put
  obtain ⟨l1, h1, ⟨u, r, e, ha, hb, hc, hd⟩ | ⟨r, e, ha, hb, hc, hd⟩⟩ := ksplit h k
  · rw [findI e (fun x hx => koI.1 (h1 x hx)) (fun x hx => by
        rcases List.mem_cons.1 hx with rfl | hx
        · exact Int.lt_irrefl _
        · have := koI.1 (ha x hx); omega) hl, Option.bind_some, hb, hc]
    simp only [hd0, decide_true, if_true]
    rw [e, itI_app, show ((l1.length : Nat) : Int) = ((itI l1).length : Int) by rw [itI_len], atI_ok (by simp [itI]), Option.bind_some]
    simp only [itI_cons, itI_app]
    rw [putI_ok]
    simp
  · rw [findI e (fun x hx => koI.1 (h1 x hx)) (fun x hx => by have := koI.1 (ha x hx); omega) hl, Option.bind_some, hb, hc]
    have hf : hd0 (fun x => decide (x.1 = k)) r = false := by
      cases r with
      | nil => rfl
      | cons x r => simpa [hd0] using (ko_ne (ha x (List.mem_cons_self ..))).symm
    rw [hf]
    simp only [Bool.false_eq_true, if_false]
    unfold InsI.insI
    have hll : l1.length ≤ m.length := by rw [e]; simp
    simp only
    rw [if_pos (by rw [itI_len]; omega), Option.bind_some, e, itI_app, Int.toNat_natCast, List.take_left' (itI_len l1), List.drop_left' (itI_len l1), itI_app]
    rfl
end Go.Proofs.YtfomkndngnfneaaDoor.St
