/- The row's side of the second layer: what a law's arguments are, in words of lists; the end of a law. -/
import Derived.Test.YtiekoeapmhhjbaaGreatDoorSxR
import Derived.Test.YtiekoeapmhhjbaaGreatDoorGnD
import Derived.Deep.Slices
namespace Go.Proofs.YtiekoeapmhhjbaaGreatDoor.Sx
open Go Go.RowKit Go.ChangeShapes Go.WideShapes Go.ChangeAt
set_option linter.unusedVariables false
set_option linter.unusedSimpArgs false
section
variable {P : Program} {W : World} {α : Type}
/-- Whatever is read at this type is an element. -/
def Dn (P : Program) (W : World) (t : TypeId) (τ : Ty α) (wf : α → Prop) : Prop :=
  ∀ {H : Type} (enc : TypeId × Value → H) (sp : Nat → Bool) (hd : Bool) (fuel : Nat) (cs : List Value) (x : DataW H × List MemPlace), DataW.trod enc P W 0 sp hd fuel t cs = some x → ∃ a, τ.R (hp W) cs a ∧ wf a
def InI (x : Int) : Prop := -9223372036854775808 ≤ x ∧ x ≤ 9223372036854775807
theorem Dn.i64 {t : TypeId} (ht : P.underlying t = some (.int .i64)) : Dn P W t tI InI := fun enc sp hd fuel cs x h => by
  obtain ⟨n, rfl, _, hw⟩ := DataW.trod_int ht h
  refine ⟨n, rfl, ?_⟩
  simp [Lit.wf, IntKind.min, IntKind.max, IntKind.signed, IntKind.bits] at hw
  unfold InI
  omega
theorem Dn.u8 {t : TypeId} (ht : P.underlying t = some (.int .u8)) : Dn P W t tU8 (fun _ => True) := fun enc sp hd fuel cs x h => by
  obtain ⟨n, rfl, _, hw⟩ := DataW.trod_int ht h
  have := u8_of hw
  refine ⟨UInt8.ofNat n.toNat, ?_, trivial⟩
  show [Value.int .u8 n] = [vu8 _]
  have h2 : ((UInt8.ofNat n.toNat).toNat : Int) = n := by simp; omega
  rw [vu8, h2]
theorem Dn.u16 {t : TypeId} (ht : P.underlying t = some (.int .u16)) : Dn P W t tU16 (fun _ => True) := fun enc sp hd fuel cs x h => by
  obtain ⟨n, rfl, _, hw⟩ := DataW.trod_int ht h
  have := u16_of hw
  refine ⟨UInt16.ofNat n.toNat, ?_, trivial⟩
  show [Value.int .u16 n] = [vu16 _]
  have h2 : ((UInt16.ofNat n.toNat).toNat : Int) = n := by simp; omega
  rw [vu16, h2]
theorem Dn.i8 {t : TypeId} (ht : P.underlying t = some (.int .i8)) : Dn P W t tI8 (fun _ => True) := fun enc sp hd fuel cs x h => by
  obtain ⟨n, rfl, _, hw⟩ := DataW.trod_int ht h
  have := i8_of hw
  refine ⟨Int8.ofInt n, ?_, trivial⟩
  show [Value.int .i8 n] = [vi8 _]
  have h2 : (Int8.ofInt n).toInt = n := Int8.toInt_ofInt_of_le (by omega) (by omega)
  rw [vi8, h2]
theorem Dn.i16 {t : TypeId} (ht : P.underlying t = some (.int .i16)) : Dn P W t tI16 (fun _ => True) := fun enc sp hd fuel cs x h => by
  obtain ⟨n, rfl, _, hw⟩ := DataW.trod_int ht h
  have := i16_of hw
  refine ⟨Int16.ofInt n, ?_, trivial⟩
  show [Value.int .i16 n] = [vi16 _]
  have h2 : (Int16.ofInt n).toInt = n := Int16.toInt_ofInt_of_le (by omega) (by omega)
  rw [vi16, h2]
theorem Dn.bool {t : TypeId} (ht : P.underlying t = some .bool) : Dn P W t tB (fun _ => True) := fun enc sp hd fuel cs x h => by
  obtain ⟨n, rfl, _⟩ := DataW.trod_bool ht h
  exact ⟨n, rfl, trivial⟩
theorem Dn.str {t : TypeId} (ht : P.underlying t = some .string) : Dn P W t tS (fun s => s.length ≤ maxLen) := fun enc sp hd fuel cs x h => by
  obtain ⟨s, rfl, _, hw⟩ := DataW.trod_string ht h
  exact ⟨s.data.toList, rfl, by show s.data.toList.length ≤ maxLen; rw [Array.length_toList]; exact hw⟩
theorem mapM_some {α β : Type} {f : α → Option β} : ∀ {l : List α} {r : List β}, l.mapM f = some r → r.length = l.length ∧ ∀ (i : Nat) (a : α), l[i]? = some a → ∃ b, f a = some b ∧ r[i]? = some b
  | [], r, h => by
    have : r = [] := by simpa using h.symm
    subst this
    exact ⟨rfl, fun i a ha => by simp at ha⟩
  | a :: l, r, h => by
    rw [List.mapM_cons] at h
    cases hf : f a with
    | none => simp [hf] at h
    | some b =>
      cases hl : l.mapM f with
      | none => simp [hf, hl] at h
      | some r2 =>
        have : r = b :: r2 := by simpa [hf, hl] using h.symm
        subst this
        obtain ⟨h1, h2⟩ := mapM_some hl
        refine ⟨by simp [h1], fun i c hc => ?_⟩
        cases i with
        | zero => simp at hc; subst hc; exact ⟨b, hf, rfl⟩
        | succ i => simpa using h2 i c (by simpa using hc)
theorem cells_some {a : Addr} {n : Nat} {cs : List Value} (h : W.cells? 0 a n = some cs) : cs.length = n ∧ ∀ j u, cs[j]? = some u → W.cell? (a.add j) = some u := by
  unfold World.cells? at h
  rw [if_pos (Nat.zero_le _)] at h
  obtain ⟨h1, h2⟩ := mapM_some h
  rw [List.length_range] at h1
  refine ⟨h1, fun j u hj => ?_⟩
  have hj' : j < n := by
    rcases Nat.lt_or_ge j n with h' | h'
    · exact h'
    · rw [List.getElem?_eq_none (by omega)] at hj; cases hj
  obtain ⟨b, hb, hr⟩ := h2 j j (by simp [hj'])
  rw [hj] at hr
  cases hr
  exact hb
theorem spot_of_cell {a : Addr} {u : Value} (h : W.cell? a = some u) : a.spot = none := by
  unfold World.cell? at h
  split at h
  · split at h
    · cases h
    · rename_i hs; simpa using hs
  · cases h
/-- A slice of what is read. -/
theorem Dn.slice {t e : TypeId} {τ : Ty α} {wf : α → Prop} (ht : P.underlying t = some (.slice e)) (he : Dn P W e τ wf) (hc : P.cellsOf e = τ.sz) (hpos : 0 < τ.sz) : Dn P W t (tSl τ) (fun xs => (∀ x ∈ xs, wf x) ∧ xs.length ≤ maxLen) := fun enc sp hd fuel cs x h => by
  rcases DataW.trod_slice ht h with ⟨rfl, _⟩ | ⟨a, len, cap, elems, rest, n, _, rfl, _, _, hl, hm, hlen, hel, _⟩
  · exact ⟨[], ⟨none, 0, rfl, Sl.nil _ _⟩, fun _ h => (by cases h), Nat.zero_le _⟩
  · have each : ∀ i, i < len → ∃ c x, W.cells? 0 (a.add (i * P.cellsOf e)) (P.cellsOf e) = some c ∧ τ.R (hp W) c x ∧ wf x := by
      intro i hi
      have h1 := hel i hi
      rw [List.getElem?_eq_getElem (by omega)] at h1
      obtain ⟨c, h2, h3⟩ := Option.bind_eq_some_iff.1 h1
      obtain ⟨x, hr, hw⟩ := he enc sp hd n c _ h3
      exact ⟨c, x, h2, hr, hw⟩
    by_cases h0 : len = 0
    · subst h0
      exact ⟨[], ⟨some a, cap, rfl, hl, hm, [], Cs.nil _ _, .inl rfl⟩, fun _ h => (by cases h), Nat.zero_le _⟩
    -- the elements, as many as there are
    have hsp : a.spot = none := by
      obtain ⟨c, x, h1, hr, _⟩ := each 0 (by omega)
      obtain ⟨hlc, hcell⟩ := cells_some h1
      have h2 := hcell 0 (c[0]'(by omega)) (List.getElem?_eq_getElem _)
      have h3 := spot_of_cell h2
      simpa [Addr.add] using h3
    have key : ∀ m, m ≤ len → ∃ (css : List (List Value)) (xs : List α), xs.length = m ∧ All2 (τ.R (hp W)) css xs ∧ (∀ x ∈ xs, wf x) ∧ Zc (hp W) a.block a.off css.flatten := by
      intro m
      induction m with
      | zero => intro _; exact ⟨[], [], rfl, trivial, fun _ h => (by cases h), fun j u hj => by simp at hj⟩
      | succ m ih =>
        intro hm1
        obtain ⟨css, xs, h1, h2, h3, h4⟩ := ih (by omega)
        obtain ⟨c, x, h5, hr, hw⟩ := each m (by omega)
        obtain ⟨hlc, hcell⟩ := cells_some h5
        refine ⟨css ++ [c], xs ++ [x], by simp [h1], h2.append ⟨hr, trivial⟩, fun y hy => ?_, fun j u hj => ?_⟩
        · rcases List.mem_append.1 hy with hy | hy
          · exact h3 y hy
          · rw [List.mem_singleton] at hy; subst hy; exact hw
        · have hfl : css.flatten.length = m * τ.sz := by rw [flat_len h2.lens, h2.length, h1]
          rw [List.flatten_append] at hj
          by_cases hjl : j < css.flatten.length
          · rw [List.getElem?_append_left hjl] at hj
            exact h4 j u hj
          · rw [List.getElem?_append_right (by omega), hfl] at hj
            have h6 := hcell (j - m * τ.sz) u (by simpa using hj)
            rw [hc, addr_lit hsp, addr_lit rfl] at h6
            rw [zc_hp]
            rw [show a.off + m * τ.sz + (j - m * τ.sz) = a.off + j by omega] at h6
            exact h6
    obtain ⟨css, xs, h1, h2, h3, h4⟩ := key len (Nat.le_refl _)
    refine ⟨xs, ⟨some a, cap, by rw [h1], by rw [h1]; exact hl, hm, css.flatten, ⟨css, h2, rfl⟩, .inr ⟨a.block, a.off, ?_, h4⟩⟩, h3, by rw [h1]; omega⟩
    obtain ⟨b, o, sp'⟩ := a
    simp only at hsp
    subst hsp
    rfl
/-- A struct's field. -/
theorem Dn.field {H : Type} {enc : TypeId × Value → H} {sp : Nat → Bool} {hd : Bool} {fuel : Nat} {cs : List Value} {x : DataW H × List MemPlace} {t : TypeId} {fs : Array Field} (ht : P.underlying t = some (.struct fs)) (h : DataW.trod enc P W 0 sp hd fuel t cs = some x) :
    cs.length = P.cellsOf t ∧ ∀ (i : Nat) (f : Field) (β : Type) (τ : Ty β) (wf : β → Prop), fs[i]? = some f → Dn P W f.type τ wf → ∃ a, τ.R (hp W) ((cs.drop f.offset).take (P.cellsOf f.type)) a ∧ wf a := by
  obtain ⟨xs, n, _, _, hl, hlen, hf⟩ := DataW.trod_struct ht h
  refine ⟨hl, fun i f β τ wf hi hD => ?_⟩
  have h1 := hf i f hi
  have hlt : i < xs.length := by
    rw [hlen]
    rcases Nat.lt_or_ge i fs.size with h' | h'
    · exact h'
    · rw [Array.getElem?_eq_none h'] at hi; cases hi
  rw [List.getElem?_eq_getElem hlt] at h1
  exact hD enc sp hd n _ _ h1
/-- A law's start: all that is there stands still. -/
theorem St.start (W : World) : Ht W (frz (hp W) :: []) W := by
  refine ⟨Fr.refl _ _, fun R hR k hk => ⟨.inl trivial, ?_⟩, fun R hR => ?_, List.pairwise_cons.2 ⟨fun R hR => (by cases hR), List.Pairwise.nil⟩⟩
  · rw [List.mem_singleton] at hR; subst hR
    have hk' : (hp W k).isSome = true := hk
    rcases Nat.lt_or_ge k W.heap.size with h' | h'
    · exact h'
    · simp [hp, h'] at hk'
  · rw [List.mem_singleton] at hR; subst hR
    exact fun k o h => h
/-- .. and its end. -/
theorem St.below {W' : World} {z : Zp} {H : List Res} (h : Ht W (frz z :: H) W') (hl : Le (hp W) z) : Below W.heap.size W W' := by
  refine ⟨h.fr.os, h.fr.tape, h.fr.output, h.fr.size, fun k hk => ?_⟩
  have h1 : hp W k = some (W.heap[k]'hk) := by simp [hp, hk]
  have h2 := h.le k _ (hl k _ h1)
  rw [show W'.heap[k]? = hp W' k from rfl, h2]
  simp [hk]
end
end Go.Proofs.YtiekoeapmhhjbaaGreatDoor.Sx
