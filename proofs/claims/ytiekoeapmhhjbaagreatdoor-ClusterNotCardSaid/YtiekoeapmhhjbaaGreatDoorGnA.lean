/- Part A of a second layer over the logic of walks: a heap that stands still (frozen), kinds of elements, slices as lists. -/
import Derived.Test.YtiekoeapmhhjbaaGreatDoorSxI
namespace Go.Proofs.YtiekoeapmhhjbaaGreatDoor.Sx
open Go Go.RowKit
set_option linter.unusedVariables false
set_option linter.unusedSimpArgs false
abbrev Str := List UInt8
/-- What stands still. -/
abbrev Zp := Nat → Option Obj
def Le (a b : Zp) : Prop := ∀ k o, a k = some o → b k = some o
theorem Le.refl (a : Zp) : Le a a := fun _ _ h => h
theorem Le.trans {a b c : Zp} (h : Le a b) (h' : Le b c) : Le a c := fun k o e => h' k o (h k o e)
def frz (ζ : Zp) : Res where
  S := fun k => (ζ k).isSome = true
  p := fun h => ∀ k o, ζ k = some o → h k = some o
  loc := fun h h' hs hh k o e => by rw [hs k (by simp [e])]; exact hh k o e
abbrev F1 : Nat → Prop := fun _ => True
abbrev Ht (w0 : World) (H : List Res) (w : World) : Prop := St w0 F1 H w
def zc (ζ : Zp) (g o : Nat) : Option Value := match ζ g with
  | some (.cells c _ _) => c[o]?
  | _ => none
/-- These cells stand there. -/
def Zc (ζ : Zp) (g o : Nat) (cs : List Value) : Prop := ∀ j u, cs[j]? = some u → zc ζ g (o + j) = some u
theorem zc_mono {ζ ζ' : Zp} (h : Le ζ ζ') {g o : Nat} {u : Value} (e : zc ζ g o = some u) : zc ζ' g o = some u := by
  unfold zc at e ⊢
  cases hg : ζ g with
  | none => simp [hg] at e
  | some ob => rw [h g ob hg]; simpa [hg] using e
theorem Zc.mono {ζ ζ' : Zp} {g o : Nat} {cs : List Value} (h : Zc ζ g o cs) (hl : Le ζ ζ') : Zc ζ' g o cs := fun j u e => zc_mono hl (h j u e)
/-- Row by row. -/
def All2 {α : Type} (R : List Value → α → Prop) : List (List Value) → List α → Prop
  | [], [] => True
  | c :: cs, x :: xs => R c x ∧ All2 R cs xs
  | _, _ => False
/-- A kind of element: how many cells it has, and which ones. -/
structure Ty (α : Type) where
  sz : Nat
  R : Zp → List Value → α → Prop
  len : ∀ {ζ cs x}, R ζ cs x → cs.length = sz
  one : ∀ {ζ cs x}, R ζ cs x → ∀ u ∈ cs, u.oneCell' = true
  mono : ∀ {ζ ζ' cs x}, R ζ cs x → Le ζ ζ' → R ζ' cs x
section
variable {α β : Type}
theorem All2.mono {R R' : List Value → α → Prop} (h : ∀ c x, R c x → R' c x) : ∀ {cs : List (List Value)} {xs : List α}, All2 R cs xs → All2 R' cs xs
  | [], [], _ => trivial
  | _ :: _, _ :: _, hh => ⟨h _ _ hh.1, All2.mono h hh.2⟩
  | [], _ :: _, hh => hh.elim
  | _ :: _, [], hh => hh.elim
theorem All2.length {R : List Value → α → Prop} : ∀ {cs : List (List Value)} {xs : List α}, All2 R cs xs → cs.length = xs.length
  | [], [], _ => rfl
  | _ :: _, _ :: _, hh => by simp [All2.length hh.2]
  | [], _ :: _, hh => hh.elim
  | _ :: _, [], hh => hh.elim
theorem All2.append {R : List Value → α → Prop} : ∀ {cs ds : List (List Value)} {xs ys : List α}, All2 R cs xs → All2 R ds ys → All2 R (cs ++ ds) (xs ++ ys)
  | [], _, [], _, _, h => h
  | _ :: _, _, _ :: _, _, h, h' => ⟨h.1, All2.append h.2 h'⟩
  | [], _, _ :: _, _, h, _ => h.elim
  | _ :: _, _, [], _, h, _ => h.elim
theorem All2.take {R : List Value → α → Prop} : ∀ (n : Nat) {cs : List (List Value)} {xs : List α}, All2 R cs xs → All2 R (cs.take n) (xs.take n)
  | 0, _, _, _ => trivial
  | n + 1, [], [], _ => trivial
  | n + 1, _ :: _, _ :: _, h => ⟨h.1, All2.take n h.2⟩
  | n + 1, [], _ :: _, h => h.elim
  | n + 1, _ :: _, [], h => h.elim
theorem All2.drop {R : List Value → α → Prop} : ∀ (n : Nat) {cs : List (List Value)} {xs : List α}, All2 R cs xs → All2 R (cs.drop n) (xs.drop n)
  | 0, _, _, h => h
  | n + 1, [], [], _ => trivial
  | n + 1, _ :: _, _ :: _, h => All2.drop n h.2
  | n + 1, [], _ :: _, h => h.elim
  | n + 1, _ :: _, [], h => h.elim
theorem All2.at_ {R : List Value → α → Prop} : ∀ {i : Nat} {cs : List (List Value)} {xs : List α} {x : α}, All2 R cs xs → xs[i]? = some x → ∃ c, cs[i]? = some c ∧ R c x
  | 0, _ :: _, _ :: _, _, h, hx => by simp at hx; subst hx; exact ⟨_, rfl, h.1⟩
  | i + 1, _ :: _, _ :: _, _, h, hx => by simp at hx; simpa using All2.at_ h.2 hx
  | _, [], [], _, _, hx => by simp at hx
  | _, [], _ :: _, _, h, _ => h.elim
  | _, _ :: _, [], _, h, _ => h.elim
theorem All2.set {R : List Value → α → Prop} : ∀ {i : Nat} {cs : List (List Value)} {xs : List α} {x : α} {c : List Value}, All2 R cs xs → R c x → All2 R (cs.set i c) (xs.set i x)
  | 0, _ :: _, _ :: _, _, _, h, hx => ⟨hx, h.2⟩
  | i + 1, _ :: _, _ :: _, _, _, h, hx => ⟨h.1, All2.set h.2 hx⟩
  | _, [], [], _, _, _, _ => trivial
  | _, [], _ :: _, _, _, h, _ => h.elim
  | _, _ :: _, [], _, _, h, _ => h.elim
/-- These cells are those elements. -/
def Cs (T : Ty α) (ζ : Zp) (cells : List Value) (xs : List α) : Prop := ∃ css, All2 (T.R ζ) css xs ∧ cells = css.flatten
theorem flat_len {sz : Nat} : ∀ {css : List (List Value)}, (∀ c ∈ css, c.length = sz) → css.flatten.length = css.length * sz
  | [], _ => by simp
  | c :: cs, h => by
    have h1 := h c (by simp)
    have h2 := flat_len (css := cs) (fun d hd => h d (by simp [hd]))
    simp only [List.flatten_cons, List.length_append, List.length_cons, h1, h2, Nat.add_mul]
    omega
theorem All2.lens {T : Ty α} {ζ : Zp} : ∀ {css : List (List Value)} {xs : List α}, All2 (T.R ζ) css xs → ∀ c ∈ css, c.length = T.sz
  | [], [], _, _, hc => by cases hc
  | d :: _, _ :: _, h, c, hc => by
    rcases List.mem_cons.1 hc with rfl | hc
    · exact T.len h.1
    · exact All2.lens h.2 c hc
  | [], _ :: _, h, _, _ => h.elim
  | _ :: _, [], h, _, _ => h.elim
theorem All2.ones {T : Ty α} {ζ : Zp} : ∀ {css : List (List Value)} {xs : List α}, All2 (T.R ζ) css xs → ∀ u ∈ css.flatten, u.oneCell' = true
  | [], [], _, _, hc => by cases hc
  | d :: ds, _ :: _, h, u, hu => by
    rw [List.flatten_cons] at hu
    rcases List.mem_append.1 hu with hu | hu
    · exact T.one h.1 u hu
    · exact All2.ones h.2 u hu
  | [], _ :: _, h, _, _ => h.elim
  | _ :: _, [], h, _, _ => h.elim
theorem Cs.len {T : Ty α} {ζ : Zp} {cells : List Value} {xs : List α} (h : Cs T ζ cells xs) : cells.length = xs.length * T.sz := by
  obtain ⟨css, h1, rfl⟩ := h
  rw [flat_len h1.lens, h1.length]
theorem Cs.one {T : Ty α} {ζ : Zp} {cells : List Value} {xs : List α} (h : Cs T ζ cells xs) : ∀ u ∈ cells, u.oneCell' = true := by
  obtain ⟨css, h1, rfl⟩ := h
  exact h1.ones
theorem Cs.mono {T : Ty α} {ζ ζ' : Zp} {cells : List Value} {xs : List α} (h : Cs T ζ cells xs) (hl : Le ζ ζ') : Cs T ζ' cells xs := by
  obtain ⟨css, h1, rfl⟩ := h
  exact ⟨css, h1.mono (fun _ _ hr => T.mono hr hl), rfl⟩
theorem Cs.nil (T : Ty α) (ζ : Zp) : Cs T ζ [] [] := ⟨[], trivial, rfl⟩
theorem Cs.append {T : Ty α} {ζ : Zp} {c d : List Value} {xs ys : List α} (h : Cs T ζ c xs) (h' : Cs T ζ d ys) : Cs T ζ (c ++ d) (xs ++ ys) := by
  obtain ⟨css, h1, rfl⟩ := h
  obtain ⟨dss, h2, rfl⟩ := h'
  exact ⟨css ++ dss, h1.append h2, by simp⟩
theorem Cs.single {T : Ty α} {ζ : Zp} {c : List Value} {x : α} (h : T.R ζ c x) : Cs T ζ c [x] := ⟨[c], ⟨h, trivial⟩, by simp⟩
theorem Cs.cons {T : Ty α} {ζ : Zp} {c d : List Value} {x : α} {xs : List α} (h : T.R ζ c x) (h' : Cs T ζ d xs) : Cs T ζ (c ++ d) (x :: xs) := Cs.append (Cs.single h) h'
theorem take_flat {sz : Nat} : ∀ (n : Nat) {css : List (List Value)}, (∀ c ∈ css, c.length = sz) → (css.take n).flatten = css.flatten.take (n * sz)
  | 0, _, _ => by simp
  | n + 1, [], _ => by simp
  | n + 1, c :: cs, h => by
    have h1 := h c (by simp)
    have h2 := take_flat n (css := cs) (fun d hd => h d (by simp [hd]))
    rw [List.take_succ_cons, List.flatten_cons, List.flatten_cons, h2, Nat.add_mul, Nat.one_mul, Nat.add_comm, ← h1, List.take_length_add_append]
theorem drop_flat {sz : Nat} : ∀ (n : Nat) {css : List (List Value)}, (∀ c ∈ css, c.length = sz) → (css.drop n).flatten = css.flatten.drop (n * sz)
  | 0, _, _ => by simp
  | n + 1, [], _ => by simp
  | n + 1, c :: cs, h => by
    have h1 := h c (by simp)
    have h2 := drop_flat n (css := cs) (fun d hd => h d (by simp [hd]))
    rw [List.drop_succ_cons, List.flatten_cons, h2, Nat.add_mul, Nat.one_mul, Nat.add_comm, ← h1, List.drop_length_add_append]
theorem Cs.take {T : Ty α} {ζ : Zp} {cells : List Value} {xs : List α} (h : Cs T ζ cells xs) (n : Nat) : Cs T ζ (cells.take (n * T.sz)) (xs.take n) := by
  obtain ⟨css, h1, rfl⟩ := h
  exact ⟨css.take n, h1.take n, (take_flat n h1.lens).symm⟩
theorem Cs.drop {T : Ty α} {ζ : Zp} {cells : List Value} {xs : List α} (h : Cs T ζ cells xs) (n : Nat) : Cs T ζ (cells.drop (n * T.sz)) (xs.drop n) := by
  obtain ⟨css, h1, rfl⟩ := h
  exact ⟨css.drop n, h1.drop n, (drop_flat n h1.lens).symm⟩
theorem take_at {sz : Nat} {css : List (List Value)} {i : Nat} {c : List Value} (h : ∀ c ∈ css, c.length = sz) (hc : css[i]? = some c) : ∀ j u, c[j]? = some u → css.flatten[i * sz + j]? = some u := by
  intro j u hj
  have h1 : css.drop i = c :: css.drop (i + 1) := by
    obtain ⟨hlt, he⟩ := List.getElem?_eq_some_iff.1 hc
    rw [List.drop_eq_getElem_cons hlt, he]
  have h2 := drop_flat i h
  rw [h1, List.flatten_cons] at h2
  have hjl : j < c.length := by
    rcases Nat.lt_or_ge j c.length with h' | h'
    · exact h'
    · rw [List.getElem?_eq_none h'] at hj; cases hj
  have h3 : (css.flatten.drop (i * sz))[j]? = some u := by rw [← h2, List.getElem?_append_left hjl]; exact hj
  rwa [List.getElem?_drop] at h3
theorem Cs.at_ {T : Ty α} {ζ : Zp} {cells : List Value} {xs : List α} {i : Nat} {x : α} (h : Cs T ζ cells xs) (hx : xs[i]? = some x) : ∃ c, T.R ζ c x ∧ ∀ j u, c[j]? = some u → cells[i * T.sz + j]? = some u := by
  obtain ⟨css, h1, rfl⟩ := h
  obtain ⟨c, hc, hr⟩ := h1.at_ hx
  exact ⟨c, hr, take_at h1.lens hc⟩
theorem set_flat {sz : Nat} : ∀ {i : Nat} {css : List (List Value)} {c : List Value}, (∀ c ∈ css, c.length = sz) → c.length = sz → i < css.length → (css.set i c).flatten = css.flatten.take (i * sz) ++ c ++ css.flatten.drop (i * sz + c.length)
  | 0, d :: ds, c, h, hc, _ => by
    have h1 := h d (by simp)
    simp only [List.set_cons_zero, List.flatten_cons, Nat.zero_mul, List.take_zero, List.nil_append, Nat.zero_add, hc, ← h1]
    rw [List.drop_left]
  | i + 1, d :: ds, c, h, hc, hi => by
    have h1 := h d (by simp)
    have h2 := set_flat (i := i) (css := ds) (c := c) (fun e he => h e (by simp [he])) hc (by simpa using hi)
    rw [List.set_cons_succ, List.flatten_cons, List.flatten_cons, h2, Nat.add_mul, Nat.one_mul, Nat.add_comm (i * sz) sz, Nat.add_assoc, ← h1, List.take_length_add_append, List.drop_length_add_append]
    simp
  | _, [], _, _, _, hi => by simp at hi
theorem Cs.set {T : Ty α} {ζ : Zp} {cells c : List Value} {xs : List α} {i : Nat} {x : α} (h : Cs T ζ cells xs) (hc : T.R ζ c x) (hi : i < xs.length) : Cs T ζ (cells.take (i * T.sz) ++ c ++ cells.drop (i * T.sz + c.length)) (xs.set i x) := by
  obtain ⟨css, h1, rfl⟩ := h
  exact ⟨css.set i c, h1.set hc, (set_flat h1.lens (T.len hc) (by rw [h1.length]; exact hi)).symm⟩
/-- A slice that stands still. -/
def Sl (T : Ty α) (ζ : Zp) (A : Option Addr) (c : Nat) (xs : List α) : Prop :=
  xs.length ≤ c ∧ c ≤ maxLen ∧ ∃ cells, Cs T ζ cells xs ∧ (xs = [] ∨ ∃ g o, A = some ⟨g, o, none⟩ ∧ Zc ζ g o cells)
theorem Sl.mono {T : Ty α} {ζ ζ' : Zp} {A : Option Addr} {c : Nat} {xs : List α} (h : Sl T ζ A c xs) (hl : Le ζ ζ') : Sl T ζ' A c xs := by
  obtain ⟨h1, h2, cells, h3, h4⟩ := h
  refine ⟨h1, h2, cells, h3.mono hl, ?_⟩
  rcases h4 with h4 | ⟨g, o, rfl, h4⟩
  · exact .inl h4
  · exact .inr ⟨g, o, rfl, h4.mono hl⟩
theorem Sl.nil (T : Ty α) (ζ : Zp) : Sl T ζ none 0 [] := ⟨Nat.le_refl _, Nat.zero_le _, [], Cs.nil T ζ, .inl rfl⟩
/-! ### Kinds of elements -/
abbrev vi (x : Int) : Value := .int .i64 x
abbrev vu8 (x : UInt8) : Value := .int .u8 (x.toNat : Int)
abbrev vu16 (x : UInt16) : Value := .int .u16 (x.toNat : Int)
abbrev vu32 (x : UInt32) : Value := .int .u32 (x.toNat : Int)
abbrev vi8 (x : Int8) : Value := .int .i8 x.toInt
abbrev vi16 (x : Int16) : Value := .int .i16 x.toInt
abbrev vb (x : Bool) : Value := .bool x
abbrev vs (s : Str) : Value := .string ⟨s.toArray⟩
def tOf (f : α → Value) (h : ∀ x, (f x).oneCell' = true) : Ty α where
  sz := 1
  R := fun _ cs x => cs = [f x]
  len := by rintro _ _ _ rfl; rfl
  one := by rintro _ _ x rfl u hu; rw [List.mem_singleton] at hu; subst hu; exact h x
  mono := fun h _ => h
def tI : Ty Int := tOf vi (fun _ => rfl)
def tU8 : Ty UInt8 := tOf vu8 (fun _ => rfl)
def tU16 : Ty UInt16 := tOf vu16 (fun _ => rfl)
def tU32 : Ty UInt32 := tOf vu32 (fun _ => rfl)
def tI8 : Ty Int8 := tOf vi8 (fun _ => rfl)
def tI16 : Ty Int16 := tOf vi16 (fun _ => rfl)
def tB : Ty Bool := tOf vb (fun _ => rfl)
def tS : Ty Str := tOf vs (fun _ => rfl)
def tSl (T : Ty α) : Ty (List α) where
  sz := 1
  R := fun ζ cs xs => ∃ A c, cs = [.slice A xs.length c] ∧ Sl T ζ A c xs
  len := by rintro _ _ _ ⟨A, c, rfl, _⟩; rfl
  one := by rintro _ _ x ⟨A, c, rfl, _⟩ u hu; rw [List.mem_singleton] at hu; subst hu; rfl
  mono := by rintro _ _ _ _ ⟨A, c, rfl, h⟩ hl; exact ⟨A, c, rfl, h.mono hl⟩
end
/-! ### Words of the functions -/
section
variable {α : Type}
abbrev wr (x : Int) : Int := IntKind.i64.wrap x
def atI (xs : List α) (i : Int) : Option α := if 0 ≤ i then xs[i.toNat]? else none
def cutI (xs : List α) (i j : Int) : Option (List α) := if 0 ≤ i ∧ i ≤ j ∧ j ≤ xs.length then some ((xs.take j.toNat).drop i.toNat) else none
def putI (xs : List α) (i : Int) (x : α) : Option (List α) := if 0 ≤ i ∧ i < xs.length then some (xs.set i.toNat x) else none
def apB (by_ : Nat) (xs ys : List α) : Option (List α) := if (xs.length + ys.length) * by_ ≤ 140737488355328 then some (xs ++ ys) else none
theorem atI_some {xs : List α} {i : Int} {x : α} (h : atI xs i = some x) : 0 ≤ i ∧ i < xs.length ∧ xs[i.toNat]? = some x := by
  unfold atI at h
  split at h
  · rename_i h0
    have hlt : i.toNat < xs.length := by
      rcases Nat.lt_or_ge i.toNat xs.length with h' | h'
      · exact h'
      · rw [List.getElem?_eq_none h'] at h; cases h
    exact ⟨h0, by omega, h⟩
  · cases h
theorem cutI_some {xs ys : List α} {i j : Int} (h : cutI xs i j = some ys) : 0 ≤ i ∧ i ≤ j ∧ j ≤ xs.length ∧ ys = (xs.take j.toNat).drop i.toNat := by
  unfold cutI at h
  split at h
  · rename_i hc
    exact ⟨hc.1, hc.2.1, hc.2.2, by simpa using h.symm⟩
  · cases h
theorem putI_some {xs ys : List α} {i : Int} {x : α} (h : putI xs i x = some ys) : 0 ≤ i ∧ i < xs.length ∧ ys = xs.set i.toNat x := by
  unfold putI at h
  split at h
  · rename_i hc
    exact ⟨hc.1, hc.2, by simpa using h.symm⟩
  · cases h
theorem apB_some {b : Nat} {xs ys zs : List α} (h : apB b xs ys = some zs) : (xs.length + ys.length) * b ≤ 140737488355328 ∧ zs = xs ++ ys := by
  unfold apB at h
  split at h
  · rename_i hc
    exact ⟨hc, by simpa using h.symm⟩
  · cases h
def forL {α S R : Type} (body : Nat → α → S → (S → Option R) → Option R) (K : S → Option R) : Nat → List α → S → Option R
  | _, [], s => K s
  | i, a :: l, s => body i a s (fun s' => forL body K (i + 1) l s')
def loopF {S R : Type} (body : S → (S → Option R) → Option R) : Nat → S → Option R
  | 0, _ => none
  | n + 1, s => body s (loopF body n)
@[irreducible] def fuel : Nat := 1099511627776
theorem fuel_eq : fuel = 1099511627776 := by unfold fuel; rfl
theorem bnd {α β : Type} {o : Option α} {f : α → Option β} {r : β} (h : (o.bind f) = some r) : ∃ y, o = some y ∧ f y = some r := by
  cases o with
  | none => cases h
  | some y => exact ⟨y, rfl, h⟩
theorem ifT {c : Prop} [Decidable c] {β : Type} {a b : Option β} {r : β} (hc : c) (h : (if c then a else b) = some r) : a = some r := by rwa [if_pos hc] at h
theorem ifF {c : Prop} [Decidable c] {β : Type} {a b : Option β} {r : β} (hc : ¬ c) (h : (if c then a else b) = some r) : b = some r := by rwa [if_neg hc] at h
theorem ifTb {c : Bool} {β : Type} {a b : Option β} {r : β} (hc : c = true) (h : (if c = true then a else b) = some r) : a = some r := by rwa [if_pos hc] at h
theorem ifFb {c : Bool} {β : Type} {a b : Option β} {r : β} (hc : c = false) (h : (if c = true then a else b) = some r) : b = some r := by rwa [if_neg (by simp [hc])] at h
end
end Go.Proofs.YtiekoeapmhhjbaaGreatDoor.Sx
