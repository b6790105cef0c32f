/- What the writer lays and the reader reads: the printed functions in plain words. -/
import Derived.Test.YtjlhookdigbjhaaEfA
namespace Go.Proofs.Ytjlhookdigbjhaa.Ef
open Go Go.Proofs Go.Proofs.Ytjlhookdigbjhaa.Sx Go.Proofs.Ytjlhookdigbjhaa.E1 Go.Proofs.Ytjlhookdigbjhaa.S1 Go.Proofs.Ytjlhookdigbjhaa.E2 Go.Proofs.Ytjlhookdigbjhaa.E3 Go.Proofs.Ytjlhookdigbjhaa.E4 Go.Proofs.Ytjlhookdigbjhaa.E5 Go.Proofs.Ytjlhookdigbjhaa.E6 Go.Proofs.Ytjlhookdigbjhaa.Ed
set_option linter.unusedVariables false
set_option linter.unusedSimpArgs false
theorem loopF_succ {S R : Type} (body : S → (S → Option R) → Option R) (n : Nat) (s : S) : loopF body (n + 1) s = body s (loopF body n) := rfl
theorem shr_ok (n : Int) (k : Nat) (hk : k ≤ 7) : shrI n (wr (8 * (k : Int))) = some (n / 256 ^ k) := by
  rw [wr_in (by omega) (by omega)]
  unfold shrI
  rw [if_neg (show ¬ 8 * (k : Int) < 0 by omega)]
  have e1 : min (8 * (k : Int)).toNat 64 = 8 * k := by omega
  have e2 : (2 : Int) ^ (8 * k) = 256 ^ k := by rw [Int.pow_mul]; rfl
  rw [e1, e2, Int.fdiv_eq_ediv_of_nonneg _ (Int.le_of_lt (Int.pow_pos (by decide)))]
/-! ### The writer -/
theorem num_b1 (n x : Int) (l : List UInt8) (nx : Int × List UInt8 → Option packWriter) : go_pack_Writer_Num.b1 n (x, l) nx = if 0 ≤ x then ((shrI n (wr (8 * x))).bind fun y => (apB 1 l [toU8 y]).bind fun l2 => nx (wr (x - 1), l2)) else some ⟨l⟩ := rfl
theorem num_loop (n : Int) : ∀ (k m : Nat) (b : List UInt8), k ≤ 8 → b.length + k ≤ 140737488355328 → loopF (go_pack_Writer_Num.b1 n) (m + k + 1) ((k : Int) - 1, b) = some ⟨b ++ ((List.range k).reverse.map (dg n))⟩
  | 0, m, b, _, _ => by
    rw [Nat.add_zero, loopF_succ, num_b1, if_neg (show ¬ (0 : Int) ≤ ((0 : Nat) : Int) - 1 by omega)]
    simp
  | k + 1, m, b, hk, hl => by
    rw [show m + (k + 1) + 1 = (m + k + 1) + 1 by omega, loopF_succ]
    have e : ((k + 1 : Nat) : Int) - 1 = (k : Int) := by omega
    rw [e, num_b1, if_pos (show (0 : Int) ≤ (k : Int) by omega), shr_ok n k (by omega), Option.bind_some, apB_ok (by simp; omega), Option.bind_some, wr_in (by omega) (by omega)]
    have ih := num_loop n k m (b ++ [toU8 (n / 256 ^ k)]) (by omega) (by simp; omega)
    rw [ih]
    simp [List.range_succ, dg]
theorem num_ok {b : List UInt8} (n : Int) (h : b.length + 8 ≤ 140737488355328) : go_pack_Writer_Num ⟨b⟩ n = some ⟨b ++ num8 n⟩ := by
  unfold go_pack_Writer_Num
  obtain ⟨m, hm⟩ : ∃ m, fuel = m + 8 + 1 := ⟨1099511627767, by rw [fuel_eq]⟩
  rw [hm]
  exact num_loop n 8 m b (Nat.le_refl _) h
def textB (s : Str) : List UInt8 := num8 (s.length : Int) ++ s
theorem textB_len (s : Str) : (textB s).length = 8 + s.length := by simp [textB, num8_len]
theorem text_ok {b : List UInt8} {s : Str} (h : b.length + (textB s).length ≤ 140737488355328) : go_pack_Writer_Text ⟨b⟩ s = some ⟨b ++ textB s⟩ := by
  rw [textB_len] at h
  unfold go_pack_Writer_Text
  rw [num_ok _ (by omega), Option.bind_some, apB_ok (by simp [num8_len]; omega), Option.bind_some]
  simp [textB]
theorem byte_ok {b : List UInt8} {c : UInt8} (h : b.length + 1 ≤ 140737488355328) : go_pack_Writer_Byte ⟨b⟩ c = some ⟨b ++ [c]⟩ := by
  unfold go_pack_Writer_Byte
  rw [apB_ok (by simp; omega)]
  rfl
def refB (r : apiRef) : List UInt8 := textB r.Name ++ [toU8 r.Kind] ++ num8 r.From ++ num8 r.To
theorem refB_len (r : apiRef) : (refB r).length = 25 + r.Name.length := by simp [refB, textB_len, num8_len]; omega
def editB (e : editsEdit) : List UInt8 := num8 e.Floor ++ num8 (e.Add.length : Int) ++ e.Add.flatMap refB ++ num8 (e.Drop.length : Int) ++ e.Drop.flatMap textB
theorem forL_app {α R : Type} {K : List UInt8 → Option R} {body : Nat → α → List UInt8 → (List UInt8 → Option R) → Option R} (f : α → List UInt8) (M : Nat) (hb : ∀ i a l nx, l.length + (f a).length ≤ M → body i a l nx = nx (l ++ f a)) :
    ∀ (xs : List α) (i : Nat) (l : List UInt8), l.length + (xs.flatMap f).length ≤ M → forL body K i xs l = K (l ++ xs.flatMap f)
  | [], i, l, _ => by simp [forL]
  | a :: xs, i, l, h => by
    rw [List.flatMap_cons, List.length_append] at h
    unfold forL
    rw [hb i a l _ (by omega), forL_app f M hb xs (i + 1) (l ++ f a) (by rw [List.length_append]; omega), List.flatMap_cons, List.append_assoc]
theorem editB_len (e : editsEdit) : (editB e).length = 24 + (e.Add.flatMap refB).length + (e.Drop.flatMap textB).length := by
  simp [editB, num8_len]; omega
theorem ref_step {a : apiRef} {l : List UInt8} {R : Type} {nx : List UInt8 → Option R} (h : l.length + (refB a).length ≤ 140737488355328) :
    ((go_pack_Writer_Text (⟨l⟩ : packWriter) a.Name).bind fun y126 => (go_pack_Writer_Byte y126 (toU8 a.Kind)).bind fun y128 => (go_pack_Writer_Num y128 a.From).bind fun y130 => (go_pack_Writer_Num y130 a.To).bind fun y132 => nx y132.b_) = nx (l ++ refB a) := by
  rw [refB_len] at h
  have ht := textB_len a.Name
  rw [text_ok (by omega), Option.bind_some, byte_ok (by simp; omega), Option.bind_some, num_ok _ (by simp; omega), Option.bind_some, num_ok _ (by simp [num8_len]; omega), Option.bind_some]
  simp [refB]
theorem bytes_ok {e : editsEdit} (h : (editB e).length ≤ 140737488355328) : go_edits_Bytes e = some (editB e) := by
  rw [editB_len] at h
  unfold go_edits_Bytes
  rw [num_ok _ (by simp), Option.bind_some, num_ok _ (by simp [num8_len]), Option.bind_some]
  rw [forL_app (body := go_edits_Bytes.b1) refB 140737488355328 (fun i a l nx hl => ref_step hl) _ _ _ (by simp only [List.length_append, num8_len, List.length_nil]; omega)]
  rw [num_ok _ (by simp only [List.length_append, num8_len, List.length_nil]; omega), Option.bind_some]
  rw [forL_app (body := go_edits_Bytes.b2) textB 140737488355328 (fun i a l nx hl => by show (go_pack_Writer_Text ⟨l⟩ a).bind (fun y => nx y.b_) = _; rw [text_ok hl, Option.bind_some]) _ _ _ (by simp only [List.length_append, num8_len, List.length_nil]; omega)]
  unfold go_pack_Writer_Bytes
  rw [apB_ok (by simp only [List.length_append, num8_len, List.length_nil]; omega)]
  simp [editB]
theorem lbytes_ok {e : editsEdit} (h : (editB e).length ≤ 140737488355328) : go_law10_bytes e = some (editB e) := by
  rw [editB_len] at h
  unfold go_law10_bytes
  rw [num_ok _ (by simp), Option.bind_some, num_ok _ (by simp [num8_len]), Option.bind_some]
  rw [forL_app (body := go_law10_bytes.b1) refB 140737488355328 (fun i a l nx hl => ref_step hl) _ _ _ (by simp only [List.length_append, num8_len, List.length_nil]; omega)]
  rw [num_ok _ (by simp only [List.length_append, num8_len, List.length_nil]; omega), Option.bind_some]
  rw [forL_app (body := go_law10_bytes.b2) textB 140737488355328 (fun i a l nx hl => by show (go_pack_Writer_Text ⟨l⟩ a).bind (fun y => nx y.b_) = _; rw [text_ok hl, Option.bind_some]) _ _ _ (by simp only [List.length_append, num8_len, List.length_nil]; omega)]
  unfold go_pack_Writer_Bytes
  rw [apB_ok (by simp only [List.length_append, num8_len, List.length_nil]; omega)]
  simp [editB]
/-! ### The reader -/
theorem take_eq (b : List UInt8) (bad : Bool) (n : Int) : go_pack_Reader_take ⟨b, bad⟩ n = some (if bad = true ∨ n < 0 ∨ (b.length : Int) < n then ([], ⟨b, true⟩) else (b.take n.toNat, ⟨b.drop n.toNat, false⟩)) := by
  unfold go_pack_Reader_take go_pack_Reader_take.j1
  cases bad with
  | true => simp
  | false =>
    by_cases h1 : n < 0
    · simp [h1]
    · by_cases h2 : (b.length : Int) < n
      · simp [h1, h2]
      · obtain ⟨k, rfl⟩ : ∃ k : Nat, n = (k : Int) := ⟨n.toNat, by omega⟩
        have c1 : cutI b 0 (k : Int) = some (b.take k) := by
          rw [show (0 : Int) = ((0 : Nat) : Int) from rfl, cutI_ok (by omega) (by omega)]; simp
        have c2 : cutI b (k : Int) (b.length : Int) = some (b.drop k) := by
          rw [cutI_ok (by omega) (by omega)]; simp
        simp [h1, h2, c1, c2]
theorem forL_fold {α S R : Type} {K : S → Option R} {body : Nat → α → S → (S → Option R) → Option R} (f : S → α → S) (hb : ∀ i a s nx, body i a s nx = nx (f s a)) : ∀ (xs : List α) (i : Nat) (s : S), forL body K i xs s = K (xs.foldl f s)
  | [], _, _ => rfl
  | a :: xs, i, s => by unfold forL; rw [hb, forL_fold f hb xs]; rfl
theorem rnum_eq (b : List UInt8) (bad : Bool) : go_pack_Reader_Num ⟨b, bad⟩ = some (if bad = true ∨ b.length < 8 then (0, ⟨b, true⟩) else (dec8 (b.take 8), ⟨b.drop 8, false⟩)) := by
  unfold go_pack_Reader_Num
  rw [take_eq, Option.bind_some, forL_fold (body := go_pack_Reader_Num.b1) (fun x c => orI (wr (x * 256)) (c.toNat : Int)) (fun i a s nx => rfl)]
  by_cases h : bad = true ∨ b.length < 8
  · rw [if_pos h, if_pos (by rcases h with h | h; exact .inl h; right; right; omega)]
    rfl
  · rw [if_neg h, if_neg (by intro hc; rcases hc with hc | hc | hc; exact h (.inl hc); omega; exact h (.inr (by omega)))]
    rfl
theorem rbyte_eq (b : List UInt8) (bad : Bool) : go_pack_Reader_Byte ⟨b, bad⟩ = some (if bad = true ∨ b.length < 1 then (0, ⟨b, true⟩) else (b.headD 0, ⟨b.drop 1, false⟩)) := by
  unfold go_pack_Reader_Byte
  rw [take_eq, Option.bind_some]
  by_cases h : bad = true ∨ b.length < 1
  · rw [if_pos h, if_pos (by rcases h with h | h; exact .inl h; right; right; omega)]
    rfl
  · rw [if_neg h, if_neg (by intro hc; rcases hc with hc | hc | hc; exact h (.inl hc); omega; exact h (.inr (by omega)))]
    cases b with
    | nil => simp at h
    | cons c b => rfl
theorem rtext_eq (b : List UInt8) (bad : Bool) : ∃ s r', go_pack_Reader_Text ⟨b, bad⟩ = some (s, r') ∧ ((bad = false ∧ r'.bad_ = false ∧ b = textB s ++ r'.b_) ∨ (r'.bad_ = true ∧ s = [] ∧ r'.b_.length ≤ b.length)) := by
  unfold go_pack_Reader_Text
  rw [rnum_eq, Option.bind_some]
  by_cases h : bad = true ∨ b.length < 8
  · rw [if_pos h]
    simp only []
    rw [take_eq]
    exact ⟨_, _, rfl, .inr (by simp)⟩
  · rw [if_neg h]
    simp only []
    rw [take_eq]
    have h8 : ¬ b.length < 8 := fun hc => h (.inr hc)
    by_cases h2 : false = true ∨ dec8 (b.take 8) < 0 ∨ ((b.drop 8).length : Int) < dec8 (b.take 8)
    · rw [if_pos h2]
      exact ⟨_, _, rfl, .inr (by simp)⟩
    · rw [if_neg h2]
      refine ⟨_, _, rfl, .inl ⟨by cases bad <;> simp_all, rfl, ?_⟩⟩
      simp only [Bool.false_eq_true, false_or, not_or, Int.not_lt] at h2
      have hl8 : (b.take 8).length = 8 := by simp; omega
      have e1 := num8_dec hl8
      have e2 : (((b.drop 8).take (dec8 (b.take 8)).toNat).length : Int) = dec8 (b.take 8) := by
        rw [List.length_take]; omega
      show b = textB ((b.drop 8).take (dec8 (b.take 8)).toNat) ++ (b.drop 8).drop (dec8 (b.take 8)).toNat
      unfold textB
      rw [e2, e1, List.append_assoc, List.take_append_drop, List.take_append_drop]
theorem rnum_or (b : List UInt8) (bad : Bool) : ∃ n r', go_pack_Reader_Num ⟨b, bad⟩ = some (n, r') ∧ ((bad = false ∧ r'.bad_ = false ∧ b = num8 n ++ r'.b_) ∨ (r'.bad_ = true ∧ r'.b_.length ≤ b.length)) := by
  rw [rnum_eq]
  by_cases h : bad = true ∨ b.length < 8
  · rw [if_pos h]; exact ⟨_, _, rfl, .inr (by simp)⟩
  · rw [if_neg h]
    have h8 : ¬ b.length < 8 := fun hc => h (.inr hc)
    refine ⟨_, _, rfl, .inl ⟨by cases bad <;> simp_all, rfl, ?_⟩⟩
    have hl8 : (b.take 8).length = 8 := by simp; omega
    rw [num8_dec hl8]
    simp
theorem rbyte_or (b : List UInt8) (bad : Bool) : ∃ c r', go_pack_Reader_Byte ⟨b, bad⟩ = some (c, r') ∧ ((bad = false ∧ r'.bad_ = false ∧ b = [c] ++ r'.b_) ∨ (r'.bad_ = true ∧ r'.b_.length ≤ b.length)) := by
  rw [rbyte_eq]
  by_cases h : bad = true ∨ b.length < 1
  · rw [if_pos h]; exact ⟨_, _, rfl, .inr (by simp)⟩
  · rw [if_neg h]
    refine ⟨_, _, rfl, .inl ⟨by cases bad <;> simp_all, rfl, ?_⟩⟩
    cases b with
    | nil => simp at h
    | cons c b => rfl
theorem done_eq (b : List UInt8) (bad : Bool) : go_pack_Reader_Done ⟨b, bad⟩ = some (!bad && decide (b = [])) := by
  unfold go_pack_Reader_Done
  cases bad
  · cases b <;> simp
    omega
  · simp
end Go.Proofs.Ytjlhookdigbjhaa.Ef
