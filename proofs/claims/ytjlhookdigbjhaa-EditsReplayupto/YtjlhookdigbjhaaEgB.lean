/- Sums and frames, in plain words. -/
import Derived.Test.YtjlhookdigbjhaaEfA
import Derived.Test.YtjlhookdigbjhaaEfB
import Derived.Test.YtjlhookdigbjhaaEfD
import Derived.Test.YtjlhookdigbjhaaE9
namespace Go.Proofs.Ytjlhookdigbjhaa.Eg
open Go Go.Proofs Go.Proofs.Ytjlhookdigbjhaa.Sx Go.Proofs.Ytjlhookdigbjhaa.E1 Go.Proofs.Ytjlhookdigbjhaa.E8 Go.Proofs.Ytjlhookdigbjhaa.E9 Go.Proofs.Ytjlhookdigbjhaa.Ed Go.Proofs.Ytjlhookdigbjhaa.Ef
set_option linter.unusedVariables false
set_option linter.unusedSimpArgs false
theorem of_b2 (p0 : UInt32) (i : Nat) (ar : List UInt32) (nx : Int × List UInt32 → Option (List UInt32)) (hi : i < ar.length) (hl : ar.length ≤ 256) : ∀ (k m : Nat) (c : UInt32), k ≤ 8 → ∃ c', loopF (go_check_Of.b2 p0 (i : Int) ar nx) (m + k + 1) (c, 8 - (k : Int)) = nx (((i + 1 : Nat) : Int), ar.set i c')
  | 0, m, c, _ => by
    refine ⟨c, ?_⟩
    rw [Nat.add_zero, loopF_succ]
    unfold go_check_Of.b2
    simp only []
    rw [if_neg (by omega), at_ok hi, Option.bind_some, put_ok _ hi, Option.bind_some, wr_in (by omega) (by omega)]
    rfl
  | k + 1, m, c, hk => by
    have hw : wr (8 - ((k + 1 : Nat) : Int) + 1) = 8 - (k : Int) := by rw [wr_in] <;> omega
    rw [show m + (k + 1) + 1 = (m + k + 1) + 1 by omega, loopF_succ]
    unfold go_check_Of.b2
    simp only []
    rw [if_pos (by omega), hw]
    split
    · exact of_b2 p0 i ar nx hi hl k m _ (by omega)
    · exact of_b2 p0 i ar nx hi hl k m _ (by omega)
theorem b1_eq (p0 : UInt32) (x : Int) (ar : List UInt32) (nx : Int × List UInt32 → Option (List UInt32)) : go_check_Of.b1 p0 (x, ar) nx = if x < 256 then loopF (go_check_Of.b2 p0 x ar nx) fuel (toU32 x, 0) else some ar := rfl
theorem of_b1 (p0 : UInt32) : ∀ (k m : Nat) (ar : List UInt32), k ≤ 256 → ar.length = 256 → ∃ t, loopF (go_check_Of.b1 p0) (m + k + 1) (256 - (k : Int), ar) = some t ∧ t.length = 256
  | 0, m, ar, _, h => by
    refine ⟨ar, ?_, h⟩
    rw [Nat.add_zero, loopF_succ, b1_eq, if_neg (by omega)]
  | k + 1, m, ar, hk, h => by
    rw [show m + (k + 1) + 1 = (m + k + 1) + 1 by omega, loopF_succ, b1_eq, if_pos (by omega)]
    obtain ⟨f, hf⟩ : ∃ f, fuel = f + 8 + 1 := ⟨1099511627767, by rw [fuel_eq]⟩
    have hi : (256 : Int) - ((k + 1 : Nat) : Int) = ((255 - k : Nat) : Int) := by omega
    rw [hf, hi]
    obtain ⟨c', hc⟩ := of_b2 p0 (255 - k) ar (loopF (go_check_Of.b1 p0) (m + k + 1)) (by omega) (by omega) 8 f (toU32 ((255 - k : Nat) : Int)) (Nat.le_refl _)
    have h8 : (8 : Int) - ((8 : Nat) : Int) = 0 := by omega
    rw [h8] at hc
    rw [hc]
    have hi2 : ((255 - k + 1 : Nat) : Int) = 256 - (k : Int) := by omega
    rw [hi2]
    exact of_b1 p0 k m _ (by omega) (by simpa using h)
theorem of_ok (p0 : UInt32) : ∃ t, go_check_Of p0 = some t ∧ t.length = 256 := by
  obtain ⟨f, hf⟩ : ∃ f, fuel = f + 256 + 1 := ⟨1099511627519, by rw [fuel_eq]⟩
  unfold go_check_Of
  rw [hf]
  exact of_b1 p0 256 f _ (Nat.le_refl _) List.length_replicate
theorem table_ok {t : List UInt32} (ht : t.length = 256) : ∀ (l : List UInt8) (i : Nat) (x : UInt32), ∃ y, forL (go_check_Table_Sum.b1 t) (fun x18 => some (4294967295 ^^^ x18)) i l x = some y
  | [], _, x => ⟨_, rfl⟩
  | a :: l, i, x => by
    show ∃ y, go_check_Table_Sum.b1 t i a x (fun s' => forL (go_check_Table_Sum.b1 t) (fun x18 => some (4294967295 ^^^ x18)) (i + 1) l s') = some y
    unfold go_check_Table_Sum.b1
    rw [at_ok (by rw [ht]; exact UInt8.toNat_lt _), Option.bind_some]
    exact table_ok ht l (i + 1) _
def sumF (l : List UInt8) : UInt32 := (go_check_Sum l).getD 0
theorem sum_ok (l : List UInt8) : go_check_Sum l = some (sumF l) := by
  have h : ∃ y, go_check_Sum l = some y := by
    obtain ⟨t, ht, hl⟩ := of_ok 3988292384
    unfold go_check_Sum
    rw [ht, Option.bind_some]
    unfold go_check_Table_Sum
    obtain ⟨y, hy⟩ := table_ok hl l 0 4294967295
    rw [hy]
    exact ⟨_, rfl⟩
  obtain ⟨y, hy⟩ := h
  unfold sumF
  rw [hy]
  rfl
theorem orI_nat (a b k : Nat) (hb : b < 2 ^ k) (h : a % 2 ^ k = 0) (hs : a + b < 4611686018427387904) : orI (a : Int) (b : Int) = ((a + b : Nat) : Int) := by
  unfold orI
  rw [BitVec.ofInt_natCast, BitVec.ofInt_natCast, BitVec.toNat_or, BitVec.toNat_ofNat, BitVec.toNat_ofNat, Nat.mod_eq_of_lt (by simp only [Nat.reducePow]; omega), Nat.mod_eq_of_lt (by simp only [Nat.reducePow]; omega)]
  have h1 : a = 2 ^ k * (a / 2 ^ k) := by
    have := Nat.div_add_mod a (2 ^ k)
    omega
  have h2 : a ||| b = a + b := by
    rw [h1, ← Nat.two_pow_add_eq_or_of_lt (i := k) hb]
  rw [h2, wr_in (by omega) (by omega)]
def numN (a b c d : UInt8) : Nat := a.toNat * 16777216 + b.toNat * 65536 + c.toNat * 256 + d.toNat
theorem numN_lt (a b c d : UInt8) : numN a b c d < 4294967296 := by
  have ha := a.toNat_lt; have hb := b.toNat_lt; have hc := c.toNat_lt; have hd := d.toNat_lt
  unfold numN
  omega
theorem number_eq (a b c d : UInt8) (l : List UInt8) : go_frame_number (a :: b :: c :: d :: l) = some ((numN a b c d : Nat) : Int) := by
  have ha := a.toNat_lt; have hb := b.toNat_lt; have hc := c.toNat_lt; have hd := d.toNat_lt
  unfold go_frame_number
  have e0 : atI (a :: b :: c :: d :: l) 0 = some a := rfl
  have e1 : atI (a :: b :: c :: d :: l) 1 = some b := rfl
  have e2 : atI (a :: b :: c :: d :: l) 2 = some c := rfl
  have e3 : atI (a :: b :: c :: d :: l) 3 = some d := rfl
  rw [e0, Option.bind_some, e1, Option.bind_some, e2, Option.bind_some, e3, Option.bind_some]
  rw [wr_in (x := (a.toNat : Int) * 16777216) (by omega) (by omega), wr_in (x := (b.toNat : Int) * 65536) (by omega) (by omega), wr_in (x := (c.toNat : Int) * 256) (by omega) (by omega)]
  have o1 := orI_nat (a.toNat * 16777216) (b.toNat * 65536) 24 (by omega) (by omega) (by omega)
  have o2 := orI_nat (a.toNat * 16777216 + b.toNat * 65536) (c.toNat * 256) 16 (by omega) (by omega) (by omega)
  have o3 := orI_nat (a.toNat * 16777216 + b.toNat * 65536 + c.toNat * 256) d.toNat 8 (by omega) (by omega) (by omega)
  simp only [Int.natCast_add, Int.natCast_mul, Int.cast_ofNat_Int] at o1 o2 o3
  unfold numN
  simp only [Int.natCast_add, Int.natCast_mul, Int.cast_ofNat_Int]
  rw [o1, o2, o3]
/-- The frame of bytes. -/
def mkF (x : List UInt8) : List UInt8 := [toU8 ((x.length : Int) / 16777216), toU8 ((x.length : Int) / 65536), toU8 ((x.length : Int) / 256), toU8 (x.length : Int), toU8 ((shr32 (sumF x) 16777216).toNat : Int), toU8 ((shr32 (sumF x) 65536).toNat : Int), toU8 ((shr32 (sumF x) 256).toNat : Int), toU8 ((sumF x).toNat : Int)] ++ x ++ [229]
theorem mkF_len (x : List UInt8) : (mkF x).length = 9 + x.length := by simp [mkF]; omega
theorem make_ok {x : List UInt8} (h : x.length ≤ 16384) : go_frame_Make x = some (mkF x, 0) := by
  unfold go_frame_Make
  rw [if_neg (by omega), sum_ok, Option.bind_some, apB_ok (by simp; omega), Option.bind_some, apB_ok (by simp; omega), Option.bind_some]
  rfl
theorem make_any {x : List UInt8} : ∃ y c, go_frame_Make x = some (y, c) ∧ y.length ≤ 9 + 16384 := by
  by_cases h : x.length ≤ 16384
  · exact ⟨_, _, make_ok h, by rw [mkF_len]; omega⟩
  · unfold go_frame_Make
    rw [if_pos (by omega)]
    exact ⟨_, _, rfl, by simp⟩
/-- One row off bytes. -/
theorem one_ok {p0 : List UInt8} (hl : p0.length ≤ 1073741824) : ∃ x n c, go_frame_One p0 = some (x, n, c) ∧ (c = 0 → x.length ≤ 16384 ∧ n = ((9 + x.length : Nat) : Int) ∧ 9 + x.length ≤ p0.length) := by
  unfold go_frame_One
  by_cases h8 : (p0.length : Int) < 8
  · rw [if_pos h8]
    exact ⟨_, _, _, rfl, fun h => by cases h⟩
  rw [if_neg h8]
  match p0, hl, h8 with
  | a :: b :: c :: d :: l, hl, h8 =>
    rw [number_eq, Option.bind_some]
    obtain ⟨N, hN⟩ : ∃ N, N = numN a b c d := ⟨_, rfl⟩
    have hlt := numN_lt a b c d
    rw [← hN] at hlt ⊢
    by_cases h1 : (16384 : Int) < (N : Int)
    · rw [if_pos h1]
      exact ⟨_, _, _, rfl, fun h => by cases h⟩
    rw [if_neg h1]
    have w1 : wr (8 + (N : Int)) = ((8 + N : Nat) : Int) := by rw [wr_in] <;> omega
    have w2 : wr (((8 + N : Nat) : Int) + 1) = ((9 + N : Nat) : Int) := by rw [wr_in] <;> omega
    rw [w1, w2]
    by_cases h2 : (((a :: b :: c :: d :: l).length : Nat) : Int) < ((9 + N : Nat) : Int)
    · rw [if_pos h2]
      exact ⟨_, _, _, rfl, fun h => by cases h⟩
    rw [if_neg h2, at_ok (show 8 + N < (a :: b :: c :: d :: l).length by omega), Option.bind_some]
    by_cases h3 : (a :: b :: c :: d :: l)[8 + N]'(by omega) = 229
    · rw [if_pos h3]
      have c1 : cutI (a :: b :: c :: d :: l) 8 ((8 + N : Nat) : Int) = some (((a :: b :: c :: d :: l).take (8 + N)).drop 8) := cutI_ok (i := 8) (by omega) (by omega)
      have c2 : cutI (a :: b :: c :: d :: l) 4 ((a :: b :: c :: d :: l).length : Int) = some l := by
        have := cutI_ok (xs := a :: b :: c :: d :: l) (i := 4) (j := (a :: b :: c :: d :: l).length) (by simp) (Nat.le_refl _)
        rw [List.take_length] at this
        exact this
      rw [c1, Option.bind_some, c2, Option.bind_some, sum_ok, Option.bind_some]
      match l, hl, h8, h2 with
      | e :: f :: g :: h :: l, hl, h8, h2 =>
        rw [number_eq, Option.bind_some]
        split
        · rw [Option.bind_some, apB_ok (by simp; omega), Option.bind_some]
          simp only [List.nil_append]
          refine ⟨_, _, _, rfl, fun _ => ⟨?_, ?_, ?_⟩⟩
          · rw [List.length_drop, List.length_take]; omega
          · rw [List.length_drop, List.length_take]; omega
          · rw [List.length_drop, List.length_take]; omega
        · exact ⟨_, _, _, rfl, fun h => by cases h⟩
      | [], hl, h8, h2 => simp at h8
      | [_], hl, h8, h2 => simp at h8
      | [_, _], hl, h8, h2 => simp at h8
      | [_, _, _], hl, h8, h2 => simp at h8
    · rw [if_neg h3]
      exact ⟨_, _, _, rfl, fun h => by cases h⟩
  | [], hl, h8 => simp at h8
  | [_], hl, h8 => simp at h8
  | [_, _], hl, h8 => simp at h8
  | [_, _, _], hl, h8 => simp at h8
theorem num_head (n : Nat) (h : n < 4294967296) : numN (toU8 ((n : Int) / 16777216)) (toU8 ((n : Int) / 65536)) (toU8 ((n : Int) / 256)) (toU8 (n : Int)) = n := by
  have h1 := toU8_nat ((n : Int) / 16777216)
  have h2 := toU8_nat ((n : Int) / 65536)
  have h3 := toU8_nat ((n : Int) / 256)
  have h4 := toU8_nat (n : Int)
  unfold numN
  omega
theorem num_sum (s : UInt32) : numN (toU8 ((shr32 s 16777216).toNat : Int)) (toU8 ((shr32 s 65536).toNat : Int)) (toU8 ((shr32 s 256).toNat : Int)) (toU8 (s.toNat : Int)) = s.toNat := by
  have hs := s.toNat_lt
  have e : ∀ k, (shr32 s k).toNat = s.toNat / k := fun k => by
    unfold shr32
    have := Nat.div_le_self s.toNat k
    rw [UInt32.toNat_ofNat']
    exact Nat.mod_eq_of_lt (by omega)
  rw [e, e, e]
  exact num_head s.toNat hs
theorem one_frame {x rest : List UInt8} (h : x.length ≤ 16384) (hr : rest.length ≤ 1073741824) : go_frame_One (mkF x ++ rest) = some (x, ((9 + x.length : Nat) : Int), 0) := by
  have e0 : mkF x ++ rest = toU8 ((x.length : Int) / 16777216) :: toU8 ((x.length : Int) / 65536) :: toU8 ((x.length : Int) / 256) :: toU8 (x.length : Int) :: toU8 ((shr32 (sumF x) 16777216).toNat : Int) :: toU8 ((shr32 (sumF x) 65536).toNat : Int) :: toU8 ((shr32 (sumF x) 256).toNat : Int) :: toU8 ((sumF x).toNat : Int) :: (x ++ 229 :: rest) := by simp [mkF]
  have hl : (mkF x ++ rest).length = 9 + x.length + rest.length := by rw [List.length_append, mkF_len]
  have n1 : go_frame_number (mkF x ++ rest) = some ((x.length : Nat) : Int) := by rw [e0, number_eq, num_head _ (by omega)]
  have c1 : cutI (mkF x ++ rest) 8 ((8 + x.length : Nat) : Int) = some x := by
    have := cutI_ok (xs := mkF x ++ rest) (i := 8) (j := 8 + x.length) (by omega) (by omega)
    rw [show ((8 : Nat) : Int) = 8 from rfl] at this
    rw [this, e0]
    congr 1
    rw [List.drop_take]
    simp
  have c2 : ∃ l, cutI (mkF x ++ rest) 4 ((mkF x ++ rest).length : Int) = some l ∧ go_frame_number l = some (((sumF x).toNat : Nat) : Int) := by
    have := cutI_ok (xs := mkF x ++ rest) (i := 4) (j := (mkF x ++ rest).length) (by omega) (Nat.le_refl _)
    rw [List.take_length] at this
    refine ⟨_, this, ?_⟩
    rw [e0]
    simp only [List.drop_succ_cons, List.drop_zero]
    rw [number_eq, num_sum]
  obtain ⟨l, c2, n2⟩ := c2
  have w1 : wr (8 + ((x.length : Nat) : Int)) = ((8 + x.length : Nat) : Int) := by rw [wr_in] <;> omega
  have w2 : wr (((8 + x.length : Nat) : Int) + 1) = ((9 + x.length : Nat) : Int) := by rw [wr_in] <;> omega
  have a1 : atI (mkF x ++ rest) ((8 + x.length : Nat) : Int) = some 229 := by
    rw [at_ok (by omega)]
    congr 1
    have : (mkF x ++ rest)[8 + x.length]? = some 229 := by
      rw [e0, show 8 + x.length = x.length + 8 by omega]
      simp only [List.getElem?_cons_succ]
      rw [List.getElem?_append_right (Nat.le_refl _)]
      simp
    rw [List.getElem?_eq_getElem (by omega)] at this
    exact Option.some.inj this
  unfold go_frame_One
  rw [if_neg (by omega), n1, Option.bind_some, if_neg (by omega), w1, w2, if_neg (by omega), a1, Option.bind_some, if_pos rfl, c1, Option.bind_some, c2, Option.bind_some, sum_ok, Option.bind_some, n2, Option.bind_some, if_pos rfl, Option.bind_some, apB_ok (by simp; omega), Option.bind_some]
  rfl
/-- What the rows of bytes are. -/
def RowsOf (q0 : List UInt8) (acc : List (List UInt8)) (pos : Nat) : Prop := pos ≤ q0.length ∧ acc.flatten.length ≤ pos ∧ acc.length ≤ pos ∧ ∀ r ∈ acc, r.length ≤ 16384
theorem cut_from {α : Type} {xs : List α} {i : Nat} (h : i ≤ xs.length) : cutI xs (i : Int) (xs.length : Int) = some (xs.drop i) := by
  rw [cutI_ok h (Nat.le_refl _), List.take_length]
theorem rows_loop {q0 : List UInt8} (hq : q0.length ≤ 1073741824) : ∀ (N m pos : Nat) (acc : List (List UInt8)), q0.length - pos ≤ N → N + 1 ≤ m → RowsOf q0 acc pos →
    ∃ (acc' : List (List UInt8)) (pos' : Nat), loopF (go_frame_All_c1.b1 (yw go_frame_Rows.z1) q0) m ((pos : Int), ((acc, (pos : Int)), 0)) = some ((acc', (pos' : Int)), 0) ∧ RowsOf q0 acc' pos'
  | N, m, pos, acc, hN, hm, hR => by
    obtain ⟨m, rfl⟩ : ∃ k, m = k + 1 := ⟨m - 1, by omega⟩
    rw [loopF_succ]
    unfold go_frame_All_c1.b1
    simp only []
    rw [cut_from hR.1, Option.bind_some]
    obtain ⟨x, n, c, ho, hc⟩ := one_ok (p0 := q0.drop pos) (by rw [List.length_drop]; omega)
    rw [ho, Option.bind_some]
    simp only []
    by_cases h0 : c = 0
    · obtain ⟨h1, h2, h3⟩ := hc h0
      rw [List.length_drop] at h3
      obtain ⟨r1, r2, r3, r4⟩ := hR
      have hw : wr ((pos : Int) + n) = ((pos + (9 + x.length) : Nat) : Int) := by rw [h2, wr_in] <;> omega
      rw [if_pos h0, hw]
      unfold yw go_frame_Rows.z1
      simp only [if_true]
      rw [apB_ok (by simp; omega), Option.bind_some, Option.bind_some]
      simp only [if_true]
      match N, hN, hm with
      | 0, hN, hm => omega
      | N + 1, hN, hm =>
        have := rows_loop hq N m (pos + (9 + x.length)) (acc ++ [x]) (by omega) (by omega) ⟨by omega, by simp at r2 ⊢; omega, by simp; omega, fun r hr => ?_⟩
        · exact this
        · rcases List.mem_append.1 hr with hr | hr
          · exact r4 r hr
          · rw [List.mem_singleton] at hr; subst hr; exact h1
    · rw [if_neg h0]
      exact ⟨acc, pos, rfl, hR⟩
theorem rows_ok {q0 : List UInt8} (hq : q0.length ≤ 1073741824) : ∃ acc pos c, go_frame_Rows q0 = some (acc, ((pos : Nat) : Int), c) ∧ RowsOf q0 acc pos := by
  unfold go_frame_Rows go_frame_All go_frame_All_c1
  rw [Option.bind_some]
  have hf := fuel_eq
  obtain ⟨acc, pos, h1, h2⟩ := rows_loop hq q0.length fuel 0 [] (by omega) (by omega) ⟨Nat.zero_le _, by simp, by simp, fun r hr => by cases hr⟩
  have h1' : loopF (go_frame_All_c1.b1 (yw go_frame_Rows.z1) q0) fuel (0, (([], 0), 0)) = some ((acc, (pos : Int)), 0) := h1
  rw [h1', Option.bind_some]
  simp only [if_true]
  split
  · exact ⟨_, _, _, rfl, h2⟩
  · rw [cut_from h2.1, Option.bind_some]
    obtain ⟨x, n, c, ho, hc⟩ := one_ok (p0 := q0.drop pos) (by rw [List.length_drop]; omega)
    rw [ho, Option.bind_some]
    exact ⟨_, _, _, rfl, h2⟩
/-- The rows of frames. -/
theorem frames_loop {q0 : List UInt8} (hq : q0.length ≤ 1073741824) : ∀ (xs : List (List UInt8)) (m : Nat) (pre : List UInt8) (acc : List (List UInt8)), xs.length + 1 ≤ m → q0 = pre ++ xs.flatMap mkF → acc.length + xs.length ≤ 1073741824 → (∀ x ∈ xs, x.length ≤ 16384) →
    loopF (go_frame_All_c1.b1 (yw go_frame_Rows.z1) q0) m ((pre.length : Int), ((acc, (pre.length : Int)), 0)) = some ((acc ++ xs, (q0.length : Int)), 0)
  | [], m, pre, acc, hm, he, ha, hx => by
    obtain ⟨m, rfl⟩ : ∃ k, m = k + 1 := ⟨m - 1, by omega⟩
    have he' : q0 = pre := by simpa using he
    subst he'
    rw [loopF_succ]
    unfold go_frame_All_c1.b1
    simp only []
    rw [cut_from (Nat.le_refl _), Option.bind_some, List.drop_length]
    have ho : go_frame_One [] = some ([], 0, 3) := rfl
    rw [ho, Option.bind_some]
    simp
  | x :: xs, m, pre, acc, hm, he, ha, hx => by
    obtain ⟨m, rfl⟩ : ∃ k, m = k + 1 := ⟨m - 1, by omega⟩
    simp only [List.length_cons] at hm ha
    have he' : q0 = pre ++ (mkF x ++ xs.flatMap mkF) := by simpa using he
    have hlen := congrArg List.length he'
    rw [List.length_append, List.length_append] at hlen
    have h1 := hx x (List.mem_cons_self ..)
    have hd : q0.drop pre.length = mkF x ++ xs.flatMap mkF := by rw [he', List.drop_left]
    have hml := mkF_len x
    rw [loopF_succ]
    unfold go_frame_All_c1.b1
    simp only []
    rw [cut_from (by omega), Option.bind_some, hd, one_frame h1 (by omega), Option.bind_some]
    simp only [if_true]
    have hw : wr ((pre.length : Int) + ((9 + x.length : Nat) : Int)) = (((pre ++ mkF x).length : Nat) : Int) := by rw [List.length_append, mkF_len, wr_in] <;> omega
    rw [hw]
    unfold yw go_frame_Rows.z1
    simp only [if_true]
    rw [apB_ok (by simp; omega), Option.bind_some, Option.bind_some]
    simp only [if_true]
    have := frames_loop hq xs m (pre ++ mkF x) (acc ++ [x]) (by omega) (by rw [he']; simp) (by simp; omega) (fun y hy => hx y (List.mem_cons_of_mem _ hy))
    rw [List.append_assoc] at this
    exact this
theorem rows_frames {xs : List (List UInt8)} (hx : ∀ x ∈ xs, x.length ≤ 16384) (hq : (xs.flatMap mkF).length ≤ 1073741824) (hn : xs.length ≤ 1073741824) : go_frame_Rows (xs.flatMap mkF) = some (xs, ((xs.flatMap mkF).length : Int), 0) := by
  unfold go_frame_Rows go_frame_All go_frame_All_c1
  rw [Option.bind_some]
  have hf := fuel_eq
  have h1 := frames_loop hq xs fuel [] [] (by omega) rfl (by simpa using hn) hx
  have h1' : loopF (go_frame_All_c1.b1 (yw go_frame_Rows.z1) (xs.flatMap mkF)) fuel (0, (([], 0), 0)) = some ((xs, ((xs.flatMap mkF).length : Int)), 0) := h1
  rw [h1', Option.bind_some]
  simp
end Go.Proofs.Ytjlhookdigbjhaa.Eg
