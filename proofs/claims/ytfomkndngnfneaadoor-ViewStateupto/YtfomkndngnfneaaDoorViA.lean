/- The View's texts, in plain words; ViewNode, ViewRefs. -/
import Derived.Lib.ItoaLen
import Derived.Test.YtfomkndngnfneaaDoorV2
namespace Go.Proofs.YtfomkndngnfneaaDoor.Vi
open Go Go.Proofs Go.Proofs.YtfomkndngnfneaaDoor.Sx Go.Proofs.YtfomkndngnfneaaDoor.V1 Go.Proofs.YtfomkndngnfneaaDoor.V2
set_option linter.unusedVariables false
set_option linter.unusedSimpArgs false
theorem wr_mod (x : Int) : (wr x) % 18446744073709551616 = x % 18446744073709551616 := by
  simp [wr, IntKind.wrap, IntKind.bits, IntKind.signed]
  split <;> omega
theorem wr_rng (x : Int) : -9223372036854775808 ≤ wr x ∧ wr x ≤ 9223372036854775807 := by
  simp [wr, IntKind.wrap, IntKind.bits, IntKind.signed]
  split <;> omega
theorem wr_in {x : Int} (h : -9223372036854775808 ≤ x) (h' : x ≤ 9223372036854775807) : wr x = x := by
  have h1 := wr_mod x
  have h3 := wr_rng x
  omega
theorem catI_ok {s t : Str} (h : s.length + t.length ≤ 9223372036854775807) : catI s t = some (s ++ t) := by
  unfold catI
  rw [if_pos h]
/-! ### Numbers -/
abbrev In64 (n : Int) : Prop := -9223372036854775808 ≤ n ∧ n ≤ 9223372036854775807
theorem decDigits_le {u : Nat} (h : u < 18446744073709551616) : (Lib.decDigits u).length ≤ 20 := by
  rw [Lib.decDigits_length]
  exact Lib.nDigits_le20 u h
theorem dec_succ {u : Nat} (h : ¬ u < 10) : Lib.decDigits u = Lib.decDigits (u / 10) ++ [UInt8.ofNat (48 + u % 10)] := by
  rw [Lib.decDigits, dif_neg h]
theorem dig_one {m : Nat} {n : Nat} (h : n < 10) : go_law20_digits (m + 1) (n : Int) = some (Lib.decDigits n) := by
  unfold go_law20_digits
  rw [if_neg (show ¬ (n : Int) < 0 by omega), if_pos (show (n : Int) < 10 by omega), Lib.decDigits_one h]
  have : ∀ k : Fin 10, (cutI ([48, 49, 50, 51, 52, 53, 54, 55, 56, 57] : Str) (k.val : Int) (wr ((k.val : Int) + 1))).bind (fun s => some s) = some [UInt8.ofNat (48 + k.val)] := by decide +kernel
  exact this ⟨n, h⟩
theorem dig_nat : ∀ (m n : Nat), n < 10 ^ (m + 1) → n ≤ 9223372036854775807 → go_law20_digits (m + 1) (n : Int) = some (Lib.decDigits n)
  | 0, n, h, _ => dig_one (by simpa using h)
  | m + 1, n, h, hb => by
    by_cases hn : n < 10
    · exact dig_one hn
    · unfold go_law20_digits
      rw [if_neg (show ¬ (n : Int) < 0 by omega), if_neg (show ¬ (n : Int) < 10 by omega)]
      have e1 : Int.tdiv (n : Int) 10 = ((n / 10 : Nat) : Int) := by
        rw [Int.tdiv_eq_ediv_of_nonneg (by omega)]
        omega
      have e2 : Int.tmod (n : Int) 10 = ((n % 10 : Nat) : Int) := by
        rw [Int.tmod_eq_emod_of_nonneg (by omega)]
        omega
      rw [e1, e2, wr_in (by omega) (by omega), dig_nat m (n / 10) (by rw [Nat.pow_succ] at h; omega) (by omega), Option.bind_some, dig_one (Nat.mod_lt _ (by decide)), Option.bind_some]
      have hl := decDigits_le (u := n / 10) (by omega)
      have hl2 := decDigits_le (u := n % 10) (by omega)
      rw [catI_ok (by omega), Option.bind_some, dec_succ hn, Lib.decDigits_one (Nat.mod_lt _ (by decide))]
theorem dig_eq {n : Int} (h : In64 n) : go_law20_digits 40 n = some (Lib.itoa n) := by
  obtain ⟨h0, h1⟩ := h
  unfold Lib.itoa
  by_cases hn : n < 0
  · rw [if_pos hn]
    unfold go_law20_digits
    rw [if_pos hn]
    have hl := decDigits_le (u := n.natAbs) (by omega)
    by_cases hb : n < -4611686018427387904
    · rw [if_pos hb]
      have e1 : Int.tdiv n 10 = -((n.natAbs / 10 : Nat) : Int) := by
        have := Int.tdiv_neg (-n) 10
        have h2 : Int.tdiv n 10 = -(Int.tdiv (-n) 10) := by rw [Int.neg_tdiv]; omega
        rw [h2, Int.tdiv_eq_ediv_of_nonneg (by omega)]
        omega
      have e2 : Int.tmod n 10 = -((n.natAbs % 10 : Nat) : Int) := by
        have h2 : Int.tmod n 10 = -(Int.tmod (-n) 10) := by rw [Int.neg_tmod]; omega
        rw [h2, Int.tmod_eq_emod_of_nonneg (by omega)]
        omega
      rw [e1, e2, wr_in (x := -((n.natAbs / 10 : Nat) : Int)) (by omega) (by omega), wr_in (by omega) (by omega), wr_in (by omega) (by omega)]
      have e3 : (0 - -((n.natAbs / 10 : Nat) : Int)) = ((n.natAbs / 10 : Nat) : Int) := by omega
      have e4 : (0 - -((n.natAbs % 10 : Nat) : Int)) = ((n.natAbs % 10 : Nat) : Int) := by omega
      rw [e3, e4, dig_nat 38 _ (by have : (922337203685477580 : Nat) < 10 ^ (38 + 1) := by decide
                                   omega) (by omega), Option.bind_some]
      have hl2 := decDigits_le (u := n.natAbs / 10) (by omega)
      have hl3 := decDigits_le (u := n.natAbs % 10) (by omega)
      rw [catI_ok (by simp; omega), Option.bind_some, dig_one (Nat.mod_lt _ (by decide)), Option.bind_some, catI_ok (by simp; omega), Option.bind_some, dec_succ (u := n.natAbs) (by omega), Lib.decDigits_one (Nat.mod_lt _ (by decide))]
      simp
    · rw [if_neg hb, wr_in (by omega) (by omega)]
      have e3 : (0 - n) = ((n.natAbs : Nat) : Int) := by omega
      rw [e3, dig_nat 38 _ (by have : (4611686018427387904 : Nat) < 10 ^ (38 + 1) := by decide
                               omega) (by omega), Option.bind_some, catI_ok (by simp; omega), Option.bind_some]
      simp
  · rw [if_neg hn]
    have e3 : n = ((n.toNat : Nat) : Int) := by omega
    have h2 := dig_nat 39 n.toNat (by have : (9223372036854775807 : Nat) < 10 ^ (39 + 1) := by decide
                                      omega) (by omega)
    rw [← e3] at h2
    exact h2
theorem ito_eq {n : Int} (h : In64 n) : VM.itoa n = some (Lib.itoa n) := by
  unfold VM.itoa
  rw [if_pos h]
theorem ito_le {n : Int} (h : In64 n) : (Lib.itoa n).length ≤ 21 := Lib.itoa_length_le n h.1 h.2
/-! ### Rows of words -/
def rowF (ws : List Str) : Str := Lib.join ws [32] ++ [10]
theorem row_eq {ws : List Str} (h : ws.length ≤ 100) (hl : (Lib.join ws [32]).length ≤ 1000000000) : go_view_row ws = some (rowF ws) := by
  unfold go_view_row VM.join
  rw [if_pos ⟨by omega, by omega⟩, Option.bind_some, catI_ok (by simp; omega)]
  rfl
/-! ### A replica's line -/
def roleF (r : Int) : Str := if r = 0 then [102, 111, 108, 108, 111, 119, 101, 114] else if r = 1 then [99, 97, 110, 100, 105, 100, 97, 116, 101] else if r = 2 then [108, 101, 97, 100, 101, 114] else [45]
def nodeF (n : nodeNode) (last : Int) : Str := rowF [[110, 111, 100, 101], Lib.itoa n.ID, roleF n.Role, Lib.itoa n.Term, Lib.itoa last, Lib.itoa n.Commit]
theorem role_le (r : Int) : (roleF r).length ≤ 9 := by
  unfold roleF
  split
  · decide
  · split
    · decide
    · split <;> decide
structure NodeOk (n : nodeNode) : Prop where
  h1 : In64 n.ID
  h2 : In64 n.Term
  h3 : In64 n.Commit
theorem node2 {n : nodeNode} (h : NodeOk n) (s : Str) (hs : s.length ≤ 9) : go_view_Node.j2 n s = some (rowF [[110, 111, 100, 101], Lib.itoa n.ID, s, Lib.itoa n.Term, Lib.itoa (wr (n.Log.Base + (n.Log.Entries.length : Int))), Lib.itoa n.Commit]) := by
  unfold go_view_Node.j2
  have hw : In64 (wr (n.Log.Base + (n.Log.Entries.length : Int))) := wr_rng _
  have hlast : go_rlog_Log_Last n.Log = some (wr (n.Log.Base + (n.Log.Entries.length : Int))) := rfl
  rw [ito_eq h.h1, Option.bind_some, ito_eq h.h2, Option.bind_some, hlast, Option.bind_some, ito_eq hw, Option.bind_some, ito_eq h.h3, Option.bind_some, row_eq (by simp)]
  · rfl
  · have a1 := ito_le h.h1
    have a2 := ito_le h.h2
    have a3 := ito_le hw
    have a4 := ito_le h.h3
    simp [Lib.join_cons, Lib.joinTail]
    omega
theorem node_eq {n : nodeNode} (h : NodeOk n) : go_view_Node n = some (nodeF n (wr (n.Log.Base + (n.Log.Entries.length : Int)))) := by
  unfold go_view_Node go_view_Node.j1 nodeF
  have hr := node2 h (roleF n.Role) (role_le _)
  by_cases h0 : 0 ≤ n.Role
  · rw [if_pos h0]
    by_cases h2 : n.Role ≤ 2
    · have : n.Role = 0 ∨ n.Role = 1 ∨ n.Role = 2 := by omega
      rcases this with e | e | e <;> rw [e] at hr ⊢ <;> exact hr
    · have e : roleF n.Role = [45] := by
        unfold roleF
        rw [if_neg (by omega), if_neg (by omega), if_neg (by omega)]
      rw [e] at hr ⊢
      simp only [h2, decide_false, Bool.false_eq_true, if_false]
      exact hr
  · have e : roleF n.Role = [45] := by
      unfold roleF
      rw [if_neg (by omega), if_neg (by omega), if_neg (by omega)]
    rw [e] at hr ⊢
    rw [if_neg h0]
    exact hr
theorem line2 {n : nodeNode} (h : NodeOk n) (s : Str) (hs : s.length ≤ 9) : go_law20_line.j2 n s = some (rowF [[110, 111, 100, 101], Lib.itoa n.ID, s, Lib.itoa n.Term, Lib.itoa (wr (n.Log.Base + (n.Log.Entries.length : Int))), Lib.itoa n.Commit]) := by
  unfold go_law20_line.j2
  have hw : In64 (wr (n.Log.Base + (n.Log.Entries.length : Int))) := wr_rng _
  have hlast : go_rlog_Log_Last n.Log = some (wr (n.Log.Base + (n.Log.Entries.length : Int))) := rfl
  have a1 := ito_le h.h1
  have a2 := ito_le h.h2
  have a3 := ito_le hw
  have a4 := ito_le h.h3
  rw [dig_eq h.h1, Option.bind_some, catI_ok (by simp; omega), Option.bind_some, catI_ok (by simp; omega), Option.bind_some, catI_ok (by simp; omega), Option.bind_some, catI_ok (by simp; omega), Option.bind_some,
    dig_eq h.h2, Option.bind_some, catI_ok (by simp; omega), Option.bind_some, catI_ok (by simp; omega), Option.bind_some, hlast, Option.bind_some, dig_eq hw, Option.bind_some, catI_ok (by simp; omega), Option.bind_some, catI_ok (by simp; omega), Option.bind_some,
    dig_eq h.h3, Option.bind_some, catI_ok (by simp; omega), Option.bind_some, catI_ok (by simp; omega), Option.bind_some]
  unfold rowF
  simp [Lib.join_cons, Lib.joinTail]
theorem line_eq {n : nodeNode} (h : NodeOk n) : go_law20_line n = some (nodeF n (wr (n.Log.Base + (n.Log.Entries.length : Int)))) := by
  unfold go_law20_line go_law20_line.j1 nodeF
  have hr := line2 h (roleF n.Role) (role_le _)
  by_cases h0 : 0 ≤ n.Role
  · rw [if_pos h0]
    by_cases h2 : n.Role < 3
    · have : n.Role = 0 ∨ n.Role = 1 ∨ n.Role = 2 := by omega
      rcases this with e | e | e <;> rw [e] at hr ⊢ <;> exact hr
    · have e : roleF n.Role = [45] := by
        unfold roleF
        rw [if_neg (by omega), if_neg (by omega), if_neg (by omega)]
      rw [e] at hr ⊢
      simp only [h2, decide_false, Bool.false_eq_true, if_false]
      exact hr
  · have e : roleF n.Role = [45] := by
      unfold roleF
      rw [if_neg (by omega), if_neg (by omega), if_neg (by omega)]
    rw [e] at hr ⊢
    rw [if_neg h0]
    exact hr
/-! ### A file's line -/
def kindF (r : Int) : Str := if r = 0 then [102, 117, 108, 108] else if r = 1 then [100, 101, 108, 116, 97] else if r = 2 then [112, 97, 114, 116] else [45]
def refF (r : apiRef) : Str := rowF [r.Name, kindF r.Kind, Lib.itoa r.From, Lib.itoa r.To]
theorem kind_le (r : Int) : (kindF r).length ≤ 9 := by
  unfold kindF
  split
  · decide
  · split
    · decide
    · split <;> decide
structure RefOk (r : apiRef) : Prop where
  h1 : In64 r.From
  h2 : In64 r.To
  h3 : r.Name.length ≤ 100000000
theorem ref2 {r : apiRef} (h : RefOk r) (s : Str) (hs : s.length ≤ 9) : go_view_Ref.j2 r s = some (rowF [r.Name, s, Lib.itoa r.From, Lib.itoa r.To]) := by
  unfold go_view_Ref.j2
  rw [ito_eq h.h1, Option.bind_some, ito_eq h.h2, Option.bind_some, row_eq (by simp)]
  · rfl
  · have a1 := ito_le h.h1
    have a2 := ito_le h.h2
    have a3 := h.h3
    simp [Lib.join_cons, Lib.joinTail]
    omega
theorem ref_eq {r : apiRef} (h : RefOk r) : go_view_Ref r = some (refF r) := by
  unfold go_view_Ref go_view_Ref.j1 refF
  have hr := ref2 h (kindF r.Kind) (kind_le _)
  by_cases h0 : 0 ≤ r.Kind
  · rw [if_pos h0]
    by_cases h2 : r.Kind < 3
    · have : r.Kind = 0 ∨ r.Kind = 1 ∨ r.Kind = 2 := by omega
      rcases this with e | e | e <;> rw [e] at hr ⊢ <;> exact hr
    · have e : kindF r.Kind = [45] := by
        unfold kindF
        rw [if_neg (by omega), if_neg (by omega), if_neg (by omega)]
      rw [e] at hr ⊢
      simp only [h2, decide_false, Bool.false_eq_true, if_false]
      exact hr
  · have e : kindF r.Kind = [45] := by
      unfold kindF
      rw [if_neg (by omega), if_neg (by omega), if_neg (by omega)]
    rw [e] at hr ⊢
    rw [if_neg h0]
    exact hr
theorem ref_len {r : apiRef} (h : RefOk r) : (refF r).length ≤ 100000100 := by
  unfold refF rowF
  have a1 := ito_le h.h1
  have a2 := ito_le h.h2
  have a3 := h.h3
  have a4 := kind_le r.Kind
  simp [Lib.join_cons, Lib.joinTail]
  omega
/-! ### A list's lines -/
theorem forL_or {α S R : Type} {body : Nat → α → S → (S → Option R) → Option R} {k : S → Option R} (I : Nat → S → Prop) (Q : Option R → Prop) : ∀ (xs : List α) (i : Nat) (s : S), I i s →
    (∀ (j : Nat) (a : α) (s : S) (nx : S → Option R), i ≤ j → xs[j - i]? = some a → I j s → Q (body j a s nx) ∨ ∃ s', body j a s nx = nx s' ∧ I (j + 1) s') → (∀ s, I (i + xs.length) s → Q (k s)) → Q (forL body k i xs s)
  | [], i, s, h, _, hk => hk s h
  | x :: xs, i, s, h, hb, hk => by
    show Q (body i x s (fun s' => forL body k (i + 1) xs s'))
    rcases hb i x s (fun s' => forL body k (i + 1) xs s') (Nat.le_refl _) (by simp) h with h1 | ⟨s', h1, h2⟩
    · exact h1
    · rw [h1]
      exact forL_or I Q xs (i + 1) s' h2 (fun j a s nx hj ha hs => hb j a s nx (by omega) (by rw [show j - i = (j - (i + 1)) + 1 by omega]; exact ha) hs) (fun s hs => hk s (by rw [List.length_cons, show i + (xs.length + 1) = i + 1 + xs.length by omega]; exact hs))
def setF (l : List apiRef) (f : Int) : Str := rowF [[102, 108, 111, 111, 114], Lib.itoa f] ++ (l.map refF).flatten
theorem flat_len {l : List apiRef} (h : ∀ r ∈ l, RefOk r) : ((l.map refF).flatten).length ≤ l.length * 100000100 := by
  induction l with
  | nil => simp
  | cons r l ih =>
    have h1 := ref_len (h r (List.mem_cons_self ..))
    have h2 := ih (fun x hx => h x (List.mem_cons_of_mem _ hx))
    simp only [List.map_cons, List.flatten_cons, List.length_append, List.length_cons]
    omega
theorem head_len {f : Int} (hf : In64 f) : (rowF [[102, 108, 111, 111, 114], Lib.itoa f]).length ≤ 100 := by
  have a1 := ito_le hf
  unfold rowF
  simp [Lib.join_cons, Lib.joinTail]
  omega
theorem set_loop {l : List apiRef} (h : ∀ r ∈ l, RefOk r) : ∀ (i : Nat) (s : Str), s.length + l.length * 100000100 ≤ 9223372036854775807 → forL go_view_Set.b1 (fun s => some s) i l s = some (s ++ (l.map refF).flatten) := by
  induction l with
  | nil => intro i s _; simp [forL]
  | cons r l ih =>
    intro i s hs
    have h1 := ref_len (h r (List.mem_cons_self ..))
    show go_view_Set.b1 i r s (fun s' => forL go_view_Set.b1 (fun s => some s) (i + 1) l s') = _
    unfold go_view_Set.b1
    simp only [List.length_cons] at hs
    have ih' := ih (fun x hx => h x (List.mem_cons_of_mem _ hx)) (i + 1) (s ++ refF r) (by rw [List.length_append]; omega)
    rw [ref_eq (h r (List.mem_cons_self ..)), Option.bind_some, catI_ok (by omega), Option.bind_some]
    refine ih'.trans ?_
    simp
theorem set_eq {l : List apiRef} {f : Int} (h : ∀ r ∈ l, RefOk r) (hf : In64 f) (hl : l.length ≤ 1000) : go_view_Set ⟨l, f⟩ = some (setF l f) := by
  unfold go_view_Set
  have h1 := head_len hf
  have a1 := ito_le hf
  rw [ito_eq hf, Option.bind_some, row_eq (by simp) (by simp [Lib.join_cons, Lib.joinTail]; omega), Option.bind_some]
  exact set_loop h 0 _ (by omega)
/-! ### The document's examples -/
theorem quote_one : VM.quote [107] = some [34, 107, 34] ∧ VM.quote [118] = some [34, 118, 34] := by decide +kernel
theorem ito_small {n : Nat} (h : n < 10) : Lib.itoa (n : Int) = [UInt8.ofNat (48 + n)] := by
  unfold Lib.itoa
  rw [if_neg (by omega)]
  exact Lib.decDigits_one h
theorem state_ex : go_view_State ⟨2, 1, [⟨[107], [118], false⟩], []⟩ = some [115, 116, 97, 116, 101, 32, 50, 32, 49, 10, 34, 107, 34, 32, 61, 32, 34, 118, 34, 10] := by
  unfold go_view_State
  have i2 : VM.itoa 2 = some [50] := by rw [ito_eq ⟨by decide, by decide⟩]; exact congrArg some (ito_small (n := 2) (by decide))
  have i1 : VM.itoa 1 = some [49] := by rw [ito_eq ⟨by decide, by decide⟩]; exact congrArg some (ito_small (n := 1) (by decide))
  simp only [i2, i1, Option.bind_some]
  have r1 : go_view_row [[115, 116, 97, 116, 101], [50], [49]] = some [115, 116, 97, 116, 101, 32, 50, 32, 49, 10] := by decide +kernel
  have r2 : go_view_row [[34, 107, 34], [61], [34, 118, 34]] = some [34, 107, 34, 32, 61, 32, 34, 118, 34, 10] := by decide +kernel
  have hp : go_view_Pairs ⟨2, 1, [⟨[107], [118], false⟩], []⟩ = some ⟨2, 1, [⟨[107], [118], false⟩], []⟩ := rfl
  have w1 : VM.wsO [] [115, 116, 97, 116, 101, 32, 50, 32, 49, 10] = some [115, 116, 97, 116, 101, 32, 50, 32, 49, 10] := by decide +kernel
  have it : go_view_Pairs_c1 (yw go_view_State.z1) ([115, 116, 97, 116, 101, 32, 50, 32, 49, 10], 0) ⟨2, 1, [⟨[107], [118], false⟩], []⟩ = some ([115, 116, 97, 116, 101, 32, 50, 32, 49, 10, 34, 107, 34, 32, 61, 32, 34, 118, 34, 10], 0) := by
    unfold go_view_Pairs_c1
    show go_view_Pairs_c1.b1 (yw go_view_State.z1) 0 ⟨[107], [118], false⟩ _ (fun s' => some s') = _
    unfold go_view_Pairs_c1.b1
    rw [quote_one.1, Option.bind_some, quote_one.2, Option.bind_some, r2, Option.bind_some]
    rfl
  rw [r1, Option.bind_some, w1, Option.bind_some, hp, Option.bind_some, it]
  rfl
theorem awake : go_law20_awake = some true := by
  unfold go_law20_awake
  rw [state_ex, Option.bind_some, if_pos rfl, ref_eq ⟨⟨by decide, by decide⟩, ⟨by decide, by decide⟩, by simp⟩, Option.bind_some]
  have i0 : Lib.itoa 0 = [48] := ito_small (n := 0) (by decide)
  have i2 : Lib.itoa 2 = [50] := ito_small (n := 2) (by decide)
  have i3 : Lib.itoa 3 = [51] := ito_small (n := 3) (by decide)
  have e1 : refF ⟨[112, 49], 2, 0, 3⟩ = [112, 49, 32, 112, 97, 114, 116, 32, 48, 32, 51, 10] := by
    unfold refF
    simp only [i0, i3]
    decide +kernel
  have e2 : go_node_Of 2 = some ⟨2, 0, (-1), ⟨0, 0, []⟩, 0, 0, ⟨false, false, false⟩, ⟨0, 0, 0⟩, ⟨0, 0, 0⟩, 0⟩ := rfl
  rw [e1, if_pos rfl, e2, Option.bind_some, node_eq ⟨⟨by decide, by decide⟩, ⟨by decide, by decide⟩, ⟨by decide, by decide⟩⟩, Option.bind_some]
  have e3 : wr ((0 : Int) + (([] : List apiEntry).length : Int)) = 0 := by decide +kernel
  unfold nodeF
  simp only [e3, i0, i2]
  decide +kernel
/-! ### The laws -/
theorem itoa_succ : ∀ k : Fin 256, Lib.itoa (k.val : Int) ≠ Lib.itoa ((k.val : Int) + 1) := by
  intro k
  have e : ∀ u : Nat, Lib.itoa (u : Int) = Lib.decDigits u := fun u => by
    unfold Lib.itoa
    rw [if_neg (by omega)]
    rfl
  have e2 : ((k.val : Int) + 1) = ((k.val + 1 : Nat) : Int) := by omega
  rw [e2, e, e]
  intro h
  have hk := k.isLt
  by_cases h1 : k.val + 1 < 10
  · rw [Lib.decDigits_one (by omega), Lib.decDigits_one h1] at h
    have := (List.cons.inj h).1
    have h3 := congrArg UInt8.toNat this
    simp at h3
    omega
  · rw [dec_succ h1] at h
    by_cases h2 : k.val < 10
    · rw [Lib.decDigits_one h2] at h
      have hl := congrArg List.length h
      have := Lib.nDigits_pos ((k.val + 1) / 10)
      rw [List.length_append, Lib.decDigits_length] at hl
      simp at hl
      omega
    · rw [dec_succ h2] at h
      have h3 := List.append_inj' h rfl
      have h4 := congrArg UInt8.toNat (List.cons.inj h3.2).1
      simp at h4
      omega
theorem viewNode (p0 p1 : Int8) (p2 : UInt8) : go_law20_ViewNode p0 p1 p2 = some true := by
  unfold go_law20_ViewNode
  have h0 := p0.le_toInt
  have h0' := p0.toInt_lt
  have h1 := p1.le_toInt
  have h1' := p1.toInt_lt
  have h2 := p2.toNat_lt
  have hw : wr ((p2.toNat : Int) + 1) = (p2.toNat : Int) + 1 := wr_in (by omega) (by omega)
  have ok1 : NodeOk ⟨p0.toInt, (p2.toNat : Int), 0, ⟨0, 0, []⟩, p1.toInt, 3, ⟨false, false, false⟩, ⟨0, 0, 0⟩, ⟨0, 0, 0⟩, 0⟩ := ⟨⟨by simp only []; omega, by simp only []; omega⟩, ⟨by simp only []; omega, by simp only []; omega⟩, ⟨by simp, by simp⟩⟩
  have ok2 : NodeOk ⟨p0.toInt, (p2.toNat : Int) + 1, 0, ⟨0, 0, []⟩, p1.toInt, 3, ⟨false, false, false⟩, ⟨0, 0, 0⟩, ⟨0, 0, 0⟩, 0⟩ := ⟨⟨by simp only []; omega, by simp only []; omega⟩, ⟨by simp only []; omega, by simp only []; omega⟩, ⟨by simp, by simp⟩⟩
  rw [awake, Option.bind_some, if_pos rfl, hw, node_eq ok1, line_eq ok1, node_eq ok2]
  simp only [Option.bind_some, if_true]
  congr 1
  simp only [Bool.not_eq_eq_eq_not, Bool.not_true, decide_eq_false_iff_not]
  unfold nodeF rowF
  simp only [Lib.join_cons, Lib.joinTail]
  intro h
  have hne := itoa_succ ⟨p2.toNat, h2⟩
  simp at h
  exact hne h
end Go.Proofs.YtfomkndngnfneaaDoor.Vi
