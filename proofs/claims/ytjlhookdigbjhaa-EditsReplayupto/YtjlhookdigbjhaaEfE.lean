/- EditsBytes, in plain words: what was laid is read. -/
import Derived.Test.YtjlhookdigbjhaaEfD
namespace Go.Proofs.Ytjlhookdigbjhaa.Ef
open Go Go.Proofs Go.Proofs.Ytjlhookdigbjhaa.Sx Go.Proofs.Ytjlhookdigbjhaa.E1 Go.Proofs.Ytjlhookdigbjhaa.S1 Go.Proofs.Ytjlhookdigbjhaa.E2 Go.Proofs.Ytjlhookdigbjhaa.E3 Go.Proofs.Ytjlhookdigbjhaa.E4 Go.Proofs.Ytjlhookdigbjhaa.E5 Go.Proofs.Ytjlhookdigbjhaa.E6 Go.Proofs.Ytjlhookdigbjhaa.Ed
set_option linter.unusedVariables false
set_option linter.unusedSimpArgs false
theorem rnum_run (n : Int) (rest : List UInt8) : go_pack_Reader_Num ⟨num8 n ++ rest, false⟩ = some (wr n, ⟨rest, false⟩) := by
  rw [rnum_eq, if_neg (by simp [num8_len])]
  have h1 : (num8 n ++ rest).take 8 = num8 n := by rw [List.take_append_of_le_length (by simp [num8_len]), List.take_of_length_le (by simp [num8_len])]
  have h2 : (num8 n ++ rest).drop 8 = rest := by rw [← num8_len n, List.drop_left]
  rw [h1, h2, dec_num8]
theorem rtext_run (s : Str) (rest : List UInt8) (h : s.length < 9223372036854775807) : go_pack_Reader_Text ⟨textB s ++ rest, false⟩ = some (s, ⟨rest, false⟩) := by
  unfold go_pack_Reader_Text textB
  rw [List.append_assoc, rnum_run, Option.bind_some, wr_in (by omega) (by omega)]
  simp only []
  rw [take_eq, if_neg (by simp; omega)]
  simp
theorem rbyte_run (c : UInt8) (rest : List UInt8) : go_pack_Reader_Byte ⟨c :: rest, false⟩ = some (c, ⟨rest, false⟩) := by
  rw [rbyte_eq, if_neg (by simp)]
  rfl
theorem run2 {p0 : List UInt8} {F : Int} {acc : List apiRef} {B} (hB : Body2 p0 F acc B) : ∀ (ds : List Str) (m : Nat) (d : List Str), ds.length + 1 ≤ m → d.length + ds.length ≤ 1073741824 → (∀ s ∈ ds, s.length < 9223372036854775807) →
    loopF B m ((ds.length : Int), ds.flatMap textB, false, d) = fin p0 F acc (d ++ ds) [] false
  | [], m, d, hm, hd, hs => by
    obtain ⟨m, rfl⟩ : ∃ k, m = k + 1 := ⟨m - 1, by omega⟩
    rw [loopF_succ, hB, if_neg (by simp)]
    simp
  | s :: ds, m, d, hm, hd, hs => by
    simp only [List.length_cons] at hm hd
    obtain ⟨m, rfl⟩ : ∃ k, m = k + 1 := ⟨m - 1, by omega⟩
    rw [loopF_succ, hB, if_pos (by simp only [List.length_cons]; omega), if_neg (by decide), List.flatMap_cons, rtext_run s _ (hs s (List.mem_cons_self ..)), Option.bind_some, apB_ok (by simp; omega), Option.bind_some]
    simp only []
    have e : wr (((s :: ds).length : Int) - 1) = (ds.length : Int) := by rw [wr_in] <;> simp <;> omega
    rw [e, run2 hB ds m (d ++ [s]) (by omega) (by simp; omega) (fun s hs' => hs s (List.mem_cons_of_mem _ hs'))]
    simp
/-- A row as it is read. -/
def norm (r : apiRef) : apiRef := ⟨r.Name, ((toU8 r.Kind).toNat : Int), wr r.From, wr r.To⟩
theorem norm_B (r : apiRef) : refB (norm r) = refB r := by
  unfold refB norm
  rw [num8_mod (wr_mod r.From), num8_mod (wr_mod r.To)]
  have : toU8 ((toU8 r.Kind).toNat : Int) = toU8 r.Kind := by
    apply toU8_eq
    have := (toU8 r.Kind).toNat_lt
    omega
  rw [this]
theorem run1 {p0 : List UInt8} {y7 : Int × packReader} (rest : List UInt8) : ∀ (rs : List apiRef) (m : Nat) (acc : List apiRef), rs.length + 1 ≤ m → acc.length + rs.length ≤ 1073741824 → (∀ r ∈ rs, r.Name.length < 9223372036854775807) →
    loopF (go_edits_Read.b1 p0 y7) m ((rs.length : Int), rs.flatMap refB ++ rest, false, acc) = (go_pack_Reader_Num ⟨rest, false⟩).bind fun z => loopF (go_edits_Read.b3 p0 y7 (acc ++ rs.map norm)) fuel (z.1, z.2.b_, z.2.bad_, [])
  | [], m, acc, hm, hd, hs => by
    obtain ⟨m, rfl⟩ : ∃ k, m = k + 1 := ⟨m - 1, by omega⟩
    rw [loopF_succ, body_b1, if_neg (by simp)]
    simp
  | r :: rs, m, acc, hm, hd, hs => by
    simp only [List.length_cons] at hm hd
    obtain ⟨m, rfl⟩ : ∃ k, m = k + 1 := ⟨m - 1, by omega⟩
    have e0 : (r :: rs).flatMap refB ++ rest = textB r.Name ++ (toU8 r.Kind :: (num8 r.From ++ (num8 r.To ++ (rs.flatMap refB ++ rest)))) := by simp [refB]
    rw [loopF_succ, body_b1, if_pos (by simp only [List.length_cons]; omega), if_neg (by decide), e0, rtext_run r.Name _ (hs r (List.mem_cons_self ..)), Option.bind_some]
    simp only []
    rw [rbyte_run, Option.bind_some]
    simp only []
    rw [rnum_run, Option.bind_some]
    simp only []
    rw [rnum_run, Option.bind_some, apB_ok (by simp; omega), Option.bind_some]
    simp only []
    have e : wr (((r :: rs).length : Int) - 1) = (rs.length : Int) := by rw [wr_in] <;> simp <;> omega
    rw [e, run1 rest rs m _ (by omega) (by simp; omega) (fun s hs' => hs s (List.mem_cons_of_mem _ hs'))]
    simp [norm]
theorem flat_norm : ∀ rs : List apiRef, (rs.map norm).flatMap refB = rs.flatMap refB
  | [] => rfl
  | r :: rs => by rw [List.map_cons, List.flatMap_cons, List.flatMap_cons, norm_B, flat_norm rs]
theorem flat_ge {α : Type} (f : α → List UInt8) (hf : ∀ a, 1 ≤ (f a).length) : ∀ xs : List α, xs.length ≤ (xs.flatMap f).length
  | [] => Nat.zero_le _
  | a :: xs => by
    have h1 := hf a
    have h2 := flat_ge f hf xs
    rw [List.flatMap_cons, List.length_append, List.length_cons]
    omega
theorem flat_mem {α : Type} (f : α → List UInt8) : ∀ (xs : List α) (a : α), a ∈ xs → (f a).length ≤ (xs.flatMap f).length
  | x :: xs, a, h => by
    rw [List.flatMap_cons, List.length_append]
    rcases List.mem_cons.1 h with rfl | h
    · omega
    · have := flat_mem f xs a h; omega
theorem read_bytes {e : editsEdit} (h : (editB e).length ≤ 1073741824) : ∃ x, go_edits_Read (editB e) = some (x, true) ∧ editB x = editB e ∧ x = ⟨e.Add.map norm, e.Drop, wr e.Floor⟩ := by
  have hl := editB_len e
  have hA := flat_ge refB (fun a => by rw [refB_len]; omega) e.Add
  have hD := flat_ge textB (fun a => by rw [textB_len]; omega) e.Drop
  have hAn : ∀ r ∈ e.Add, r.Name.length < 9223372036854775807 := fun r hr => by have := flat_mem refB _ r hr; rw [refB_len] at this; omega
  have hDn : ∀ r ∈ e.Drop, r.length < 9223372036854775807 := fun r hr => by have := flat_mem textB _ r hr; rw [textB_len] at this; omega
  have hf := fuel_big
  have hE : editB ⟨e.Add.map norm, e.Drop, wr e.Floor⟩ = editB e := by
    unfold editB
    simp only []
    rw [num8_mod (wr_mod e.Floor), flat_norm, List.length_map]
  refine ⟨⟨e.Add.map norm, e.Drop, wr e.Floor⟩, ?_, hE, rfl⟩
  unfold go_edits_Read go_pack_Of
  rw [Option.bind_some]
  have e0 : editB e = num8 e.Floor ++ (num8 (e.Add.length : Int) ++ (e.Add.flatMap refB ++ (num8 (e.Drop.length : Int) ++ e.Drop.flatMap textB))) := by simp [editB]
  obtain ⟨p0, hp0⟩ : ∃ p0, p0 = editB e := ⟨_, rfl⟩
  rw [← hp0] at e0 ⊢
  have hr1 : go_pack_Reader_Num ⟨p0, false⟩ = some (wr e.Floor, ⟨num8 (e.Add.length : Int) ++ (e.Add.flatMap refB ++ (num8 (e.Drop.length : Int) ++ e.Drop.flatMap textB)), false⟩) := by rw [e0]; exact rnum_run _ _
  rw [hr1, Option.bind_some]
  simp only []
  rw [rnum_run, Option.bind_some]
  simp only []
  rw [wr_in (x := (e.Add.length : Int)) (by omega) (by omega), run1 _ e.Add _ [] (by omega) (by simp; omega) hAn, rnum_run, Option.bind_some]
  simp only [List.nil_append]
  rw [wr_in (x := (e.Drop.length : Int)) (by omega) (by omega), run2 (body_b3 _ _ _) e.Drop _ [] (by omega) (by simp; omega) hDn]
  unfold fin
  rw [done_eq, Option.bind_some, if_pos (by simp)]
  simp only [List.nil_append]
  rw [bytes_ok (by rw [hE]; omega), Option.bind_some, hE, hp0, if_neg (by simp)]
/-- One edit's turn in EditsBytes. -/
theorem bytes_turn (e : editsEdit) (h : (editB e).length ≤ 1073741824) (nx : Unit → Option Bool) (i : Nat) : go_law10_EditsBytes.b3 i e () nx = nx () := by
  obtain ⟨x, hr, hx, _⟩ := read_bytes h
  unfold go_law10_EditsBytes.b3 go_law10_EditsBytes.j1
  simp only []
  rw [bytes_ok (by omega), Option.bind_some, hr, Option.bind_some, lbytes_ok (by omega), Option.bind_some, if_pos rfl, if_pos rfl, lbytes_ok (by rw [hx]; omega), Option.bind_some, hx, Option.bind_some]
  simp
theorem flat_le {α : Type} (f : α → List UInt8) (M : Nat) : ∀ xs : List α, (∀ a ∈ xs, (f a).length ≤ M) → (xs.flatMap f).length ≤ xs.length * M
  | [], _ => by simp
  | a :: xs, h => by
    have h1 := h a (List.mem_cons_self ..)
    have h2 := flat_le f M xs (fun b hb => h b (List.mem_cons_of_mem _ hb))
    rw [List.flatMap_cons, List.length_append, List.length_cons, Nat.add_mul]
    omega
theorem editsBytes (p0 : List law10Step) (p1 : editsEdit) (h0 : p0.length ≤ 1048576) (h1 : ∀ x ∈ p0, x.Any.Name.length ≤ 1048576) (h2 : ∀ x ∈ p1.Add, x.Name.length ≤ 1048576) (h3 : ∀ x ∈ p1.Drop, x.length ≤ 1048576) : go_law10_EditsBytes p0 p1 = some true := by
  unfold go_law10_EditsBytes
  rw [awake, Option.bind_some, if_pos rfl]
  have c1 : cutI p1.Add 0 (min (p1.Add.length : Int) 20) = some (p1.Add.take (min p1.Add.length 20)) := cut_min p1.Add 20
  have c2 : cutI p1.Drop 0 (min (p1.Drop.length : Int) 20) = some (p1.Drop.take (min p1.Drop.length 20)) := cut_min p1.Drop 20
  have c3 : cutI p0 0 (min (p0.length : Int) 20) = some (p0.take (min p0.length 20)) := cut_min p0 20
  rw [c1, Option.bind_some, c2, Option.bind_some]
  obtain ⟨A, hA⟩ : ∃ A, A = p1.Add.take (min p1.Add.length 20) := ⟨_, rfl⟩
  obtain ⟨D, hD⟩ : ∃ D, D = p1.Drop.take (min p1.Drop.length 20) := ⟨_, rfl⟩
  rw [← hA, ← hD]
  have hAl : A.length ≤ 20 := by rw [hA, List.length_take]; omega
  have hDl : D.length ≤ 20 := by rw [hD, List.length_take]; omega
  have hAn : ∀ x ∈ A, x.Name.length ≤ 1048576 := fun x hx => h2 x (by rw [hA] at hx; exact List.mem_of_mem_take hx)
  have hDn : ∀ x ∈ D, x.length ≤ 1048576 := fun x hx => h3 x (by rw [hD] at hx; exact List.mem_of_mem_take hx)
  rw [apB_ok (by simp; omega), Option.bind_some]
  simp only [List.nil_append]
  refine forL_or (fun j (l : List apiRef) => l.length = A.length ∧ ∀ x ∈ l, x.Name.length ≤ 1048576) (fun r => r = some true) _ _ _ ⟨rfl, hAn⟩ ?_ ?_
  · intro j a l nx _ hj ha ⟨hl, hm⟩
    refine .inr ?_
    have hjl : j < l.length := by omega
    unfold go_law10_EditsBytes.b1
    have c4 : cutI l[j].Name 0 (min (l[j].Name.length : Int) 60) = some (l[j].Name.take (min l[j].Name.length 60)) := cut_min _ 60
    rw [at_ok hjl, Option.bind_some, c4, Option.bind_some, put_ok _ hjl, Option.bind_some, at_ok (by simpa using hjl), Option.bind_some, put_ok _ (by simpa using hjl), Option.bind_some]
    refine ⟨_, rfl, by simp [hl], fun x hx => ?_⟩
    have hnj := hm l[j] (List.getElem_mem _)
    rcases List.mem_or_eq_of_mem_set hx with hx | rfl
    · rcases List.mem_or_eq_of_mem_set hx with hx | rfl
      · exact hm x hx
      · simp only [List.length_take]; omega
    · simp only [List.getElem_set_self, List.length_take]; omega
  · intro l ⟨hl, hm⟩
    rw [c3, Option.bind_some]
    have hraw : (editB ⟨l, D, p1.Floor⟩).length ≤ 1073741824 := by
      rw [editB_len]
      have e1 := flat_le refB 1048601 l (fun a ha => by rw [refB_len]; have := hm a ha; omega)
      have e2 := flat_le textB 1048584 D (fun a ha => by rw [textB_len]; have := hDn a ha; omega)
      simp only []
      have e3 : l.length * 1048601 ≤ 20 * 1048601 := Nat.mul_le_mul_right _ (by omega)
      have e4 : D.length * 1048584 ≤ 20 * 1048584 := Nat.mul_le_mul_right _ (by omega)
      omega
    refine forL_or (fun j (l : List editsEdit) => l.length ≤ j + 1 ∧ ∀ e ∈ l, (editB e).length ≤ 1073741824) (fun r => r = some true) _ _ _ ⟨by simp, fun b hb => by rw [List.mem_singleton] at hb; subst hb; exact hraw⟩ ?_ ?_
    · intro j a l nx _ hj ha ⟨hl, hm⟩
      refine .inr ?_
      have h40 : j < 20 := by simp at hj; omega
      obtain ⟨e, he, hs⟩ := edit_sz a (h1 a (List.mem_of_mem_take ha))
      unfold go_law10_EditsBytes.b2
      rw [he, Option.bind_some]
      split
      · exact ⟨_, rfl, by omega, hm⟩
      · rw [apB_ok (by simp; omega), Option.bind_some]
        refine ⟨_, rfl, by simp; omega, fun b hb => ?_⟩
        rcases List.mem_append.1 hb with hb | hb
        · exact hm b hb
        · rw [List.mem_singleton] at hb; subst hb; omega
    · intro l ⟨hl, hm⟩
      exact forL_all l 0 (fun j a nx ha => bytes_turn a (hm a ha) nx j)
end Go.Proofs.Ytjlhookdigbjhaa.Ef
