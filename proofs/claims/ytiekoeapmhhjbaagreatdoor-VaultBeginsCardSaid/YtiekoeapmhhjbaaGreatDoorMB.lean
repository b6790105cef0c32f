/- The interpreter is sound: values, memory, operations that look at no memory. -/
import Derived.Test.YtiekoeapmhhjbaaGreatDoorMA
import Derived.Test.YtiekoeapmhhjbaaGreatDoorSxI
/- The interpreter is sound, part A: small laws; memory as a function. -/
namespace Go.Proofs.YtiekoeapmhhjbaaGreatDoor.X
open Go
set_option linter.unusedVariables false
set_option linter.unusedSimpArgs false
theorem bx {F α : Type} (g : F → α) (b : Bx F) : Bx.rec (motive := fun _ => α) g b = g b.f := by cases b; rfl
theorem bi_t {α : Type} (x y : α) : bi true x y = x := rfl
theorem bi_f {α : Type} (x y : α) : bi false x y = y := rfl
theorem frc_eq {α : Type} (n : Nat) (K : Nat → α) : frc n K = K n := by cases n <;> rfl
theorem oc_some {α β : Type} (a : α) (z : β) (f : α → β) : oc (some a) z f = f a := rfl
theorem oc_none {α β : Type} (z : β) (f : α → β) : oc none z f = z := rfl
theorem ob_some {α β : Type} (a : α) (f : α → Option β) : ob (some a) f = f a := rfl
theorem ob_none {α β : Type} (f : α → Option β) : ob none f = none := rfl
theorem lapp_eq {α : Type} (a b : List α) : lapp a b = a ++ b := by
  induction a with
  | nil => rfl
  | cons x r ih => exact congrArg _ ih
theorem len_eq {α : Type} (a : List α) : len a = a.length := by
  induction a with
  | nil => rfl
  | cons x r ih => exact congrArg (· + 1) ih
theorem mapL_eq {α β : Type} (f : α → β) (a : List α) : mapL f a = a.map f := by
  induction a with
  | nil => rfl
  | cons x r ih => exact congrArg _ ih
theorem isNil_iff {α : Type} {a : List α} : isNil a = true ↔ a = [] := by cases a <;> simp [isNil]
theorem ob_eq {α β : Type} {o : Option α} {f : α → Option β} {b : β} : ob o f = some b ↔ ∃ a, o = some a ∧ f a = some b := by
  cases o <;> simp [ob]
theorem oc_eq {α β : Type} {o : Option α} {f : α → Option β} {b : β} : oc o none f = some b ↔ ∃ a, o = some a ∧ f a = some b := by
  cases o <;> simp [oc]
theorem bi_eq {α : Type} {b : Bool} {x : Option α} {y : α} : bi b x none = some y ↔ b = true ∧ x = some y := by
  cases b <;> simp [bi]
theorem bi_eq' {α : Type} {b : Bool} {x : Option α} {y : α} : bi b none x = some y ↔ b = false ∧ x = some y := by
  cases b <;> simp [bi]
theorem headO_eq {α : Type} (l : List α) : headO l = l.head? := by cases l <;> rfl
theorem dropL_eq {α : Type} (n : Nat) : ∀ l : List α, dropL n l = l.drop n := by
  induction n with
  | zero => intro l; rfl
  | succ n ih => intro l; cases l with
    | nil => rfl
    | cons x r => exact ih r
theorem takeL_eq {α : Type} (n : Nat) : ∀ {l r : List α}, takeL n l = some r → r = l.take n ∧ n ≤ l.length := by
  induction n with
  | zero => intro l r h; cases h; simp
  | succ n ih => intro l r h; cases l with
    | nil => cases h
    | cons x s =>
      have h' : ob (takeL n s) (fun q => some (x :: q)) = some r := h
      rw [ob_eq] at h'
      obtain ⟨q, h1, h2⟩ := h'
      cases h2
      have := ih h1
      simp [this.1]
      exact this.2

/-- There is an answer. -/
def Yes (a : A) : Prop := ∃ r, a = some r
theorem yes_none : ¬ Yes none := fun ⟨_, h⟩ => by cases h
theorem yes_bi {b : Bool} {x : A} (h : Yes (bi b x none)) : b = true ∧ Yes x := by
  cases b
  · exact (yes_none h).elim
  · exact ⟨rfl, h⟩
theorem yes_bi' {b : Bool} {x : A} (h : Yes (bi b none x)) : b = false ∧ Yes x := by
  cases b
  · exact ⟨rfl, h⟩
  · exact (yes_none h).elim
theorem yes_bi2 {b : Bool} {x y : A} (h : Yes (bi b x y)) : (b = true ∧ Yes x) ∨ (b = false ∧ Yes y) := by
  cases b
  · exact .inr ⟨rfl, h⟩
  · exact .inl ⟨rfl, h⟩
theorem yes_oc {α : Type} {o : Option α} {f : α → A} (h : Yes (oc o none f)) : ∃ a, o = some a ∧ Yes (f a) := by
  cases o with
  | none => exact (yes_none h).elim
  | some a => exact ⟨a, rfl, h⟩
theorem yes_ovm {o : Option V} {m : M} {K : Kt} (h : Yes (ovm o m K)) : ∃ v, o = some v ∧ Yes (K v m) := by
  cases o with
  | none => exact (yes_none h).elim
  | some a => exact ⟨a, rfl, h⟩
theorem yes_orm {o : R1} {K : Kt} (h : Yes (orm o K)) : ∃ v m, o = some (v, m) ∧ Yes (K v m) := by
  cases o with
  | none => exact (yes_none h).elim
  | some a => exact ⟨a.1, a.2, rfl, h⟩
theorem yes_frc {n : Nat} {K : Nat → A} (h : Yes (frc n K)) : Yes (K n) := by rwa [frc_eq] at h
theorem yes_both {a b : A} (h : Yes (both a b)) : Yes a ∧ Yes b := by
  cases a with
  | none => exact (yes_none h).elim
  | some x => cases b with
    | none => exact (yes_none h).elim
    | some y => exact ⟨⟨x, rfl⟩, ⟨y, rfl⟩⟩
theorem yes_alls {K : Kt} : ∀ {l : List (V × M)}, Yes (alls K l) → ∀ x ∈ l, Yes (K x.1 x.2)
  | [], h => (yes_none h).elim
  | x :: r, h => by
    have h' : Yes (bi (isNil r) (K x.1 x.2) (both (K x.1 x.2) (alls K r))) := h
    intro y hy
    rcases yes_bi2 h' with ⟨h1, h2⟩ | ⟨_, h2⟩
    · rw [isNil_iff] at h1
      subst h1
      simp at hy
      subst hy
      exact h2
    · rcases List.mem_cons.1 hy with rfl | hy
      · exact (yes_both h2).1
      · exact yes_alls (yes_both h2).2 y hy
theorem alls_ne {K : Kt} {l : List (V × M)} (h : Yes (alls K l)) : l ≠ [] := by
  rintro rfl
  exact yes_none h
theorem yes_onBool {v : V} {K : Bool → A} (h : Yes (v.onBool K none)) : ∃ b, v = .bool b ∧ Yes (K b) := by
  cases v <;> first | exact (yes_none h).elim | exact ⟨_, rfl, h⟩
theorem yes_onInt {v : V} {K : IntKind → Nat → A} (h : Yes (v.onInt K none)) : ∃ k n, v = .int k n ∧ Yes (K k n) := by
  cases v <;> first | exact (yes_none h).elim | exact ⟨_, _, rfl, h⟩
theorem yes_onPtr {v : V} {K : Nat → Nat → A} (h : Yes (v.onPtr K none)) : ∃ b o, v = .ptr b o ∧ Yes (K b o) := by
  cases v <;> first | exact (yes_none h).elim | exact ⟨_, _, rfl, h⟩
theorem yes_onTup {v : V} {K : List V → A} (h : Yes (v.onTup K none)) : ∃ l, v = .tup l ∧ Yes (K l) := by
  cases v <;> first | exact (yes_none h).elim | exact ⟨_, rfl, h⟩

/-! ### maps of eight arms -/
section
variable {α : Type}
theorem sel8_f (z : α) (d : Nat) (n : N8 α) : sel8 z d n = (selB z d).f n := bx _ _
theorem upd8_f (d : Nat) (n : N8 α) (x : α) : upd8 d n x = (updB d).f n x := bx _ _
theorem sel_big (z : α) (d : Nat) (n : N8 α) (h : 8 ≤ d) : (selB z d).f n = z := by
  obtain ⟨e, rfl⟩ : ∃ e, d = e + 8 := ⟨d - 8, by omega⟩
  rfl
theorem sel_upd_same (z : α) (d : Nat) (n : N8 α) (x : α) (h : d < 8) : (selB z d).f ((updB d).f n x) = x := by
  match d, h with
  | 0, _ => rfl
  | 1, _ => rfl
  | 2, _ => rfl
  | 3, _ => rfl
  | 4, _ => rfl
  | 5, _ => rfl
  | 6, _ => rfl
  | 7, _ => rfl
theorem upd_big (d : Nat) (n : N8 α) (x : α) (h : 8 ≤ d) : (updB d).f n x = n := by
  obtain ⟨e, rfl⟩ : ∃ e, d = e + 8 := ⟨d - 8, by omega⟩
  rfl
theorem sel_upd_ne (z : α) (d c : Nat) (n : N8 α) (x : α) (h : d ≠ c) : (selB z d).f ((updB c).f n x) = (selB z d).f n := by
  by_cases h8 : 8 ≤ d
  · rw [sel_big z d _ h8, sel_big z d _ h8]
  by_cases h9 : 8 ≤ c
  · rw [upd_big c n x h9]
  have hd : d < 8 := by omega
  have hc : c < 8 := by omega
  clear h8 h9
  match d, hd, c, hc with
  | 0, _, 0, _ => exact absurd rfl h
  | 0, _, 1, _ | 0, _, 2, _ | 0, _, 3, _ | 0, _, 4, _ | 0, _, 5, _ | 0, _, 6, _ | 0, _, 7, _ => rfl
  | 1, _, 1, _ => exact absurd rfl h
  | 1, _, 0, _ | 1, _, 2, _ | 1, _, 3, _ | 1, _, 4, _ | 1, _, 5, _ | 1, _, 6, _ | 1, _, 7, _ => rfl
  | 2, _, 2, _ => exact absurd rfl h
  | 2, _, 0, _ | 2, _, 1, _ | 2, _, 3, _ | 2, _, 4, _ | 2, _, 5, _ | 2, _, 6, _ | 2, _, 7, _ => rfl
  | 3, _, 3, _ => exact absurd rfl h
  | 3, _, 0, _ | 3, _, 1, _ | 3, _, 2, _ | 3, _, 4, _ | 3, _, 5, _ | 3, _, 6, _ | 3, _, 7, _ => rfl
  | 4, _, 4, _ => exact absurd rfl h
  | 4, _, 0, _ | 4, _, 1, _ | 4, _, 2, _ | 4, _, 3, _ | 4, _, 5, _ | 4, _, 6, _ | 4, _, 7, _ => rfl
  | 5, _, 5, _ => exact absurd rfl h
  | 5, _, 0, _ | 5, _, 1, _ | 5, _, 2, _ | 5, _, 3, _ | 5, _, 4, _ | 5, _, 6, _ | 5, _, 7, _ => rfl
  | 6, _, 6, _ => exact absurd rfl h
  | 6, _, 0, _ | 6, _, 1, _ | 6, _, 2, _ | 6, _, 3, _ | 6, _, 4, _ | 6, _, 5, _ | 6, _, 7, _ => rfl
  | 7, _, 7, _ => exact absurd rfl h
  | 7, _, 0, _ | 7, _, 1, _ | 7, _, 2, _ | 7, _, 3, _ | 7, _, 4, _ | 7, _, 5, _ | 7, _, 6, _ => rfl
/-- A map: what is looked up behind a change is the change, or what was there; at a number that is too great nothing is known. -/
structure Mapl (τ : Type) (zz : τ) (z : α) (g : Nat → τ → α) (u : Nat → α → τ → τ) : Prop where
  ne : ∀ j k v t, j ≠ k → g j (u k v t) = g j t
  same : ∀ k v t, g k (u k v t) = v ∨ g k (u k v t) = z
  zz : ∀ k, g k zz = z
theorem sel_al (z : α) (x : α) (d : Nat) : (selB z d).f (al8 x) = x ∨ (selB z d).f (al8 x) = z := by
  by_cases h : 8 ≤ d
  · exact .inr (sel_big _ _ _ h)
  · have hd : d < 8 := by omega
    left
    match d, hd with
    | 0, _ | 1, _ | 2, _ | 3, _ | 4, _ | 5, _ | 6, _ | 7, _ => rfl
theorem mapl1 (z : α) : Mapl (N8 α) (al8 z) z (fun k => (selB z k).f) (fun k v t => (updB k).f t v) where
  ne := fun j k v t h => sel_upd_ne z j k t v h
  same := fun k v t => by
    by_cases h : k < 8
    · exact .inl (sel_upd_same z k t v h)
    · exact .inr (sel_big z k _ (by omega))
  zz := fun k => by rcases sel_al z z k with h | h <;> exact h
theorem Mapl.up {τ : Type} {zz : τ} {z : α} {g : Nat → τ → α} {u : Nat → α → τ → τ} (h : Mapl τ zz z g u) (m : Nat) :
    Mapl (N8 τ) (al8 zz) z (fun k t => g (k % m) ((selB zz (k / m)).f t)) (fun k v t => (updB (k / m)).f t (u (k % m) v ((selB zz (k / m)).f t))) where
  ne := fun j k v t hne => by
    by_cases hq : j / m = k / m
    · by_cases h8 : j / m < 8
      · have hr : j % m ≠ k % m := fun he => hne (by rw [← Nat.div_add_mod j m, ← Nat.div_add_mod k m, hq, he])
        rw [hq] at h8 ⊢
        rw [sel_upd_same _ _ _ _ h8, h.ne _ _ _ _ hr]
      · rw [sel_big _ _ _ (by omega), sel_big _ _ _ (by omega)]
    · rw [sel_upd_ne _ _ _ _ _ hq]
  same := fun k v t => by
    by_cases h8 : k / m < 8
    · rw [sel_upd_same _ _ _ _ h8]
      exact h.same _ _ _
    · right
      rw [sel_big _ _ _ (by omega), h.zz]
  zz := fun k => by
    rcases sel_al zz zz (k / m) with h' | h' <;> rw [h', h.zz]
theorem mapl2 (z : α) : Mapl (T2 α) (al8 (al8 z)) z (fun k => (g2B z k).f) (fun k v t => (u2B z k).f v t) := by
  have h := (mapl1 z).up 8
  have e1 : (fun k => (g2B z k).f) = fun k t => (selB z (k % 8)).f ((selB (al8 z) (k / 8)).f t) := by
    funext k t; unfold g2B; rw [bx]; rfl
  have e2 : (fun k v t => (u2B z k).f v t) = fun k v t => (updB (k / 8)).f t ((updB (k % 8)).f ((selB (al8 z) (k / 8)).f t) v) := by
    funext k v t; unfold u2B; rw [bx]; rfl
  rw [e1, e2]; exact h
theorem mapl3 (z : α) : Mapl (T3 α) (al8 (al8 (al8 z))) z (fun k => (g3B z k).f) (fun k v t => (u3B z k).f v t) := by
  have h := (mapl2 z).up 64
  have e1 : (fun k => (g3B z k).f) = fun k t => (g2B z (k % 64)).f ((selB (al8 (al8 z)) (k / 64)).f t) := by
    funext k t; unfold g3B; rw [bx]; rfl
  have e2 : (fun k v t => (u3B z k).f v t) = fun k v t => (updB (k / 64)).f t ((u2B z (k % 64)).f v ((selB (al8 (al8 z)) (k / 64)).f t)) := by
    funext k v t; unfold u3B; rw [bx]; rfl
  rw [e1, e2]; exact h
theorem mapl4 (z : α) : Mapl (T4 α) (al8 (al8 (al8 (al8 z)))) z (fun k => (g4B z k).f) (fun k v t => (u4B z k).f v t) := by
  have h := (mapl3 z).up 512
  have e1 : (fun k => (g4B z k).f) = fun k t => (g3B z (k % 512)).f ((selB (al8 (al8 (al8 z))) (k / 512)).f t) := by
    funext k t; unfold g4B; rw [bx]; rfl
  have e2 : (fun k v t => (u4B z k).f v t) = fun k v t => (updB (k / 512)).f t ((u3B z (k % 512)).f v ((selB (al8 (al8 (al8 z))) (k / 512)).f t)) := by
    funext k v t; unfold u4B; rw [bx]; rfl
  rw [e1, e2]; exact h
theorem mapl5 (z : α) : Mapl (T5 α) (al8 (al8 (al8 (al8 (al8 z))))) z (fun k => (g5B z k).f) (fun k v t => (u5B z k).f v t) := by
  have h := (mapl4 z).up 4096
  have e1 : (fun k => (g5B z k).f) = fun k t => (g4B z (k % 4096)).f ((selB (al8 (al8 (al8 (al8 z)))) (k / 4096)).f t) := by
    funext k t; unfold g5B; rw [bx]; rfl
  have e2 : (fun k v t => (u5B z k).f v t) = fun k v t => (updB (k / 4096)).f t ((u4B z (k % 4096)).f v ((selB (al8 (al8 (al8 (al8 z)))) (k / 4096)).f t)) := by
    funext k v t; unfold u5B; rw [bx]; rfl
  rw [e1, e2]; exact h
end
theorem gE_f (k : Nat) (t : En) : gE k t = (g3B .any k).f t := bx _ _
theorem uE_f (k : Nat) (v : V) (t : En) : uE k v t = (u3B .any k).f v t := bx _ _
theorem gC_f (k : Nat) (t : Cs) : gC k t = (g4B .any k).f t := bx _ _
theorem uC_f (k : Nat) (v : V) (t : Cs) : uC k v t = (u4B .any k).f v t := bx _ _
theorem g5_f (k : Nat) (t : T5 Blk) : g5 .dead k t = (g5B .dead k).f t := bx _ _
theorem u5_f (k : Nat) (v : Blk) (t : T5 Blk) : u5 .dead k v t = (u5B .dead k).f v t := bx _ _
theorem gE_ne {j k : Nat} {v : V} {t : En} (h : j ≠ k) : gE j (uE k v t) = gE j t := by
  rw [gE_f, gE_f, uE_f]; exact (mapl3 V.any).ne j k v t h
theorem gE_same (k : Nat) (v : V) (t : En) : gE k (uE k v t) = v ∨ gE k (uE k v t) = .any := by
  rw [gE_f, uE_f]; exact (mapl3 V.any).same k v t
theorem gE_en0 (k : Nat) : gE k en0 = .any := by
  rw [gE_f]; exact (mapl3 V.any).zz k
theorem gC_ne {j k : Nat} {v : V} {t : Cs} (h : j ≠ k) : gC j (uC k v t) = gC j t := by
  rw [gC_f, gC_f, uC_f]; exact (mapl4 V.any).ne j k v t h
theorem gC_same (k : Nat) (v : V) (t : Cs) : gC k (uC k v t) = v ∨ gC k (uC k v t) = .any := by
  rw [gC_f, uC_f]; exact (mapl4 V.any).same k v t
theorem gC_cs0 (k : Nat) : gC k cs0 = .any := by
  rw [gC_f]; exact (mapl4 V.any).zz k
theorem g5_ne {j k : Nat} {b : Blk} {t : T5 Blk} (h : j ≠ k) : g5 .dead j (u5 .dead k b t) = g5 .dead j t := by
  rw [g5_f, g5_f, u5_f]; exact (mapl5 Blk.dead).ne j k b t h
theorem g5_same (k : Nat) (b : Blk) (t : T5 Blk) : g5 .dead k (u5 .dead k b t) = b ∨ g5 .dead k (u5 .dead k b t) = .dead := by
  rw [g5_f, u5_f]; exact (mapl5 Blk.dead).same k b t
end Go.Proofs.YtiekoeapmhhjbaaGreatDoor.X
/- The interpreter is sound, part B: what a value denotes; what a memory says of a world. -/
namespace Go.Proofs.YtiekoeapmhhjbaaGreatDoor.X
open Go
set_option linter.unusedVariables false
set_option linter.unusedSimpArgs false
/-- Where a block lies: the world's block, from which cell on, and how many cells there are from there. -/
structure G where
  blk : Nat
  sh : Nat
  N : Nat
abbrev Gm := Nat → Option G
def strB (s : List Nat) : ByteArray := ⟨(s.map UInt8.ofNat).toArray⟩
def CapOK (g : G) (o : Nat) (c : Cap) (l p : Nat) : Prop := l ≤ p ∧ match c with
  | .all z => o + p * z = g.N
  | .is c => p = c
mutual
/-- What a value denotes. -/
def DV (ν : Nat → Value → Prop) (Γ : Gm) : V → Value → Prop
  | .any, _ => True
  | .bool b, x => x = .bool b
  | .int k n, x => x = .int k (k.wrap n)
  | .rng k lo hi, x => ∃ n : Nat, lo ≤ n ∧ n ≤ hi ∧ x = .int k (k.wrap n)
  | .str s, x => x = .string (strB s)
  | .ptr b o, x => ∃ g, Γ b = some g ∧ x = .pointer (some ⟨g.blk, g.sh + o, none⟩)
  | .nilP, x => x = .pointer none
  | .slice b o l c, x => ∃ g p, Γ b = some g ∧ CapOK g o c l p ∧ x = .slice (some ⟨g.blk, g.sh + o, none⟩) l p
  | .nilS, x => x = .slice none 0 0
  | .emp c, x => ∃ a p, (c = true → p = 0) ∧ x = .slice (some a) 0 p
  | .map r, x => ∃ g, Γ r = some g ∧ x = .map (some g.blk)
  | .nilM, x => x = .map none
  | .func f a c, x => ∃ ys zs, DVL ν Γ a ys ∧ DVL ν Γ c zs ∧ x = .func (.func f) ys.toArray zs.toArray
  | .yld l, x => ∃ g, Γ l = some g ∧ x = .func (.yield g.blk) #[] #[]
  | .nilF, x => x = .nilFunc
  | .iface t v, x => ∃ y, DV ν Γ v y ∧ x = .iface t y
  | .nilI, x => x = .nilIface
  | .agg cs, x => ∃ ys, DVL ν Γ cs ys ∧ (∀ y ∈ ys, y.oneCell' = true) ∧ x = .agg ys.toArray
  | .tup vs, x => ∃ ys, DVL ν Γ vs ys ∧ x = .tuple ys.toArray
  | .opq i, x => ν i x ∧ x.oneCell' = true
def DVL (ν : Nat → Value → Prop) (Γ : Gm) : List V → List Value → Prop
  | [], ys => ys = []
  | v :: r, ys => ∃ y s, ys = y :: s ∧ DV ν Γ v y ∧ DVL ν Γ r s
end
variable {ν : Nat → Value → Prop} {Γ Γ' : Gm}
def LeG (Γ Γ' : Gm) : Prop := ∀ k g, Γ k = some g → Γ' k = some g
theorem LeG.refl (Γ : Gm) : LeG Γ Γ := fun _ _ h => h
theorem LeG.trans {A B C : Gm} (h : LeG A B) (h' : LeG B C) : LeG A C := fun k g e => h' k g (h k g e)
mutual
theorem DV.mono (h : LeG Γ Γ') : ∀ {v : V} {x : Value}, DV ν Γ v x → DV ν Γ' v x
  | .any, _, _ => trivial
  | .bool _, _, e => e
  | .int _ _, _, e => e
  | .rng _ _ _, _, e => e
  | .str _, _, e => e
  | .ptr _ _, _, ⟨g, e, r⟩ => ⟨g, h _ _ e, r⟩
  | .nilP, _, e => e
  | .slice _ _ _ _, _, ⟨g, p, e, r⟩ => ⟨g, p, h _ _ e, r⟩
  | .nilS, _, e => e
  | .emp _, _, e => e
  | .map _, _, ⟨g, e, r⟩ => ⟨g, h _ _ e, r⟩
  | .nilM, _, e => e
  | .func _ _ _, _, ⟨ys, zs, h1, h2, e⟩ => ⟨ys, zs, DVL.mono h h1, DVL.mono h h2, e⟩
  | .yld _, _, ⟨g, e, r⟩ => ⟨g, h _ _ e, r⟩
  | .nilF, _, e => e
  | .iface _ _, _, ⟨y, h1, e⟩ => ⟨y, DV.mono h h1, e⟩
  | .nilI, _, e => e
  | .agg _, _, ⟨ys, h1, h2, e⟩ => ⟨ys, DVL.mono h h1, h2, e⟩
  | .tup _, _, ⟨ys, h1, e⟩ => ⟨ys, DVL.mono h h1, e⟩
  | .opq _, _, e => e
theorem DVL.mono (h : LeG Γ Γ') : ∀ {l : List V} {ys : List Value}, DVL ν Γ l ys → DVL ν Γ' l ys
  | [], _, e => e
  | _ :: _, _, ⟨y, s, e, h1, h2⟩ => ⟨y, s, e, DV.mono h h1, DVL.mono h h2⟩
end
theorem DVL.length : ∀ {l : List V} {ys : List Value}, DVL ν Γ l ys → ys.length = l.length
  | [], _, e => by rw [DVL] at e; rw [e]; rfl
  | _ :: r, _, h => by
    rw [DVL] at h
    obtain ⟨y, s, rfl, _, h2⟩ := h
    simp [DVL.length h2]
theorem DVL.nil : DVL ν Γ [] [] := by rw [DVL]
theorem DVL.cons {v : V} {l : List V} {y : Value} {ys : List Value} (h : DV ν Γ v y) (h' : DVL ν Γ l ys) : DVL ν Γ (v :: l) (y :: ys) := by
  rw [DVL]; exact ⟨y, ys, rfl, h, h'⟩
theorem DVL.append : ∀ {l r : List V} {ys zs : List Value}, DVL ν Γ l ys → DVL ν Γ r zs → DVL ν Γ (l ++ r) (ys ++ zs)
  | [], _, _, _, h, h' => by rw [DVL] at h; subst h; exact h'
  | _ :: _, _, _, _, h, h' => by
    rw [DVL] at h
    obtain ⟨y, s, rfl, h1, h2⟩ := h
    exact DVL.cons h1 (DVL.append h2 h')
theorem DVL.get : ∀ {l : List V} {ys : List Value}, DVL ν Γ l ys → ∀ {i : Nat} {v : V}, l[i]? = some v → ∃ y, ys[i]? = some y ∧ DV ν Γ v y
  | [], _, _, i, v, hi => by simp at hi
  | _ :: r, _, h, i, v, hi => by
    rw [DVL] at h
    obtain ⟨y, s, rfl, h1, h2⟩ := h
    cases i with
    | zero => simp at hi; subst hi; exact ⟨y, rfl, h1⟩
    | succ i => simp at hi; simpa using DVL.get h2 hi
theorem DVL.take : ∀ {l : List V} {ys : List Value} (n : Nat), DVL ν Γ l ys → DVL ν Γ (l.take n) (ys.take n)
  | [], _, n, h => by rw [DVL] at h; subst h; simpa using DVL.nil
  | _ :: r, _, n, h => by
    rw [DVL] at h
    obtain ⟨y, s, rfl, h1, h2⟩ := h
    cases n with
    | zero => exact DVL.nil
    | succ n => exact DVL.cons h1 (DVL.take n h2)
theorem DVL.drop : ∀ {l : List V} {ys : List Value} (n : Nat), DVL ν Γ l ys → DVL ν Γ (l.drop n) (ys.drop n)
  | [], _, n, h => by rw [DVL] at h; subst h; simpa using DVL.nil
  | v :: r, _, n, h => by
    have h0 := h
    rw [DVL] at h
    obtain ⟨y, s, rfl, h1, h2⟩ := h
    cases n with
    | zero => exact h0
    | succ n => exact DVL.drop n h2
theorem DVL.head {l : List V} {ys : List Value} (h : DVL ν Γ l ys) {v : V} (hv : l.head? = some v) : ∃ y, ys.head? = some y ∧ DV ν Γ v y := by
  cases l with
  | nil => simp at hv
  | cons a r =>
    simp at hv
    subst hv
    rw [DVL] at h
    obtain ⟨y, s, rfl, h1, _⟩ := h
    exact ⟨y, rfl, h1⟩

/-! ### a memory and a world -/
/-- A map's entries. -/
def Ent (ν : Nat → Value → Prop) (Γ : Gm) : List (V × V × Nat) → List MapEntry → Prop
  | [], es => es = []
  | x :: r, es => ∃ y s, es = y :: s ∧ DV ν Γ x.1 y.key ∧ DV ν Γ x.2.1 y.val ∧ y.born = x.2.2 ∧ Ent ν Γ r s
theorem Ent.mono (h : LeG Γ Γ') : ∀ {l : List (V × V × Nat)} {ys : List MapEntry}, Ent ν Γ l ys → Ent ν Γ' l ys
  | [], _, e => e
  | _ :: _, _, ⟨y, s, e, h1, h2, h3, h4⟩ => ⟨y, s, e, h1.mono h, h2.mono h, h3, Ent.mono h h4⟩
def stN : LoopState → Nat
  | .ready => 0
  | .busy => 1
  | .done => 2
  | .exhausted => 3
/-- Cells of a row, from some cell on. -/
def Cells (ν : Nat → Value → Prop) (Γ : Gm) (n : Nat) (t : Cs) (s : Nat) (A : Array Value) : Prop := ∀ i, i < n → ∃ y, A[s + i]? = some y ∧ y.oneCell' = true ∧ DV ν Γ (gC i t) y
def BOK (ν : Nat → Value → Prop) (Γ : Gm) (b : Blk) (g : G) (h : Array Obj) : Prop := match b with
  | .dead => True
  | .cells n t T fz => ∃ A T' fr, h[g.blk]? = some (.cells A T' fr) ∧ A.size = g.sh + g.N ∧ n ≤ g.N ∧ (fz = false → fr = (0, 0)) ∧ (∀ i, i < A.size → ¬ (fr.1 ≤ i ∧ i < fr.2)) ∧ Cells ν Γ n t g.sh A
  | .tab n t => ∃ A T fr, h[g.blk]? = some (.cells A T fr) ∧ Cells ν Γ n t g.sh A
  | .map es c => ∃ ys, h[g.blk]? = some (.map ys c) ∧ Ent ν Γ es ys.toList
  | .mapIter mo since seen last => g.sh = 0 ∧ ∃ q, h[g.blk]? = some (.mapIter q since seen.toArray last) ∧ match mo with
    | none => q = none
    | some r => ∃ g', Γ r = some g' ∧ q = some g'.blk
  | .strIter s p => g.sh = 0 ∧ h[g.blk]? = some (.stringIter (strB s) p)
  | .loop st pend t sz ps asg body => ∃ r, h[g.blk]? = some (.loop r) ∧ stN r.state = st ∧ r.pending = pend ∧ r.tmps.size = sz ∧ (∀ i, DV ν Γ (gE i t) (r.tmps.getD i undef)) ∧ r.params.toList = ps ∧ r.assign = asg ∧ r.body = body
  | .deferred => h[g.blk]? = some (.deferred (some []))
theorem Cells.mono (hl : LeG Γ Γ') {n : Nat} {t : Cs} {s : Nat} {A : Array Value} (h : Cells ν Γ n t s A) : Cells ν Γ' n t s A := fun i hi => by
  obtain ⟨y, h1, h2, h3⟩ := h i hi
  exact ⟨y, h1, h2, h3.mono hl⟩
theorem BOK.mono (hl : LeG Γ Γ') {b : Blk} {g : G} {h : Array Obj} (hb : BOK ν Γ b g h) : BOK ν Γ' b g h := by
  cases b with
  | dead => trivial
  | cells n t T fz => obtain ⟨A, T', fr, h1, h2, h3, h4, h5, h6⟩ := hb; exact ⟨A, T', fr, h1, h2, h3, h4, h5, h6.mono hl⟩
  | tab n t => obtain ⟨A, T, fr, h1, h6⟩ := hb; exact ⟨A, T, fr, h1, h6.mono hl⟩
  | map es c => obtain ⟨ys, h1, h2⟩ := hb; exact ⟨ys, h1, h2.mono hl⟩
  | mapIter mo since seen last =>
    obtain ⟨h0, q, h1, h2⟩ := hb
    refine ⟨h0, q, h1, ?_⟩
    cases mo with
    | none => exact h2
    | some r => obtain ⟨g', h3, h4⟩ := h2; exact ⟨g', hl _ _ h3, h4⟩
  | strIter s p => exact hb
  | loop st pend t sz ps asg body => obtain ⟨r, h1, h2, h3, h4, h5, h6⟩ := hb; exact ⟨r, h1, h2, h3, h4, fun i => (h5 i).mono hl, h6⟩
  | deferred => exact hb
theorem BOK.heap {b : Blk} {g : G} {h h' : Array Obj} (hb : BOK ν Γ b g h) (he : h'[g.blk]? = h[g.blk]?) : BOK ν Γ b g h' := by
  cases b <;> simp only [BOK, he] at hb ⊢ <;> exact hb
theorem BOK.lt {b : Blk} {g : G} {h : Array Obj} (hb : BOK ν Γ b g h) (hd : b ≠ .dead) : g.blk < h.size := by
  have key : ∀ o, h[g.blk]? = some o → g.blk < h.size := fun o ho => (Array.getElem?_eq_some_iff.1 ho).1
  cases b with
  | dead => exact absurd rfl hd
  | cells n t T fz => obtain ⟨A, T', fr, h1, _⟩ := hb; exact key _ h1
  | tab n t => obtain ⟨A, T, fr, h1, h6⟩ := hb; exact key _ h1
  | map es c => obtain ⟨ys, h1, h2⟩ := hb; exact key _ h1
  | mapIter mo since seen last => obtain ⟨_, q, h1, h2⟩ := hb; exact key _ h1
  | strIter s p => exact key _ hb.2
  | loop st pend t sz ps asg body => obtain ⟨r, h1, _⟩ := hb; exact key _ h1
  | deferred => exact key _ hb
/-- A block of one's own. -/
def ownB (b : Blk) : Prop := b ≠ .dead ∧ ∀ n t, b ≠ .tab n t
/-- Rows of so many; numbers that are not less. -/
def SlZ (z : Nat) (x : Value) : Prop := ∃ (a : Option Addr) (p : Nat), z ≤ p ∧ x = .slice a z p
def GeZ (z : Nat) (x : Value) : Prop := ∃ n : Nat, z ≤ n ∧ n < 2 * lim40 ∧ x = .int .i64 n
def ClsOK (a hi v : Nat) : Prop := if a < 8 then v = a else a - 8 ≤ v ∧ v ≤ hi
def BytOK (ν : Nat → Value → Prop) (a n : Nat) : Prop := (a = 0 → ν 101 (.int .i64 n)) ∧ (a = 1 → ν 102 (.int .i64 n)) ∧ (a = 2 → 60 ≤ n)
/-- What has a name is as it is named. -/
structure NuOK (ν : Nat → Value → Prop) : Prop where
  fam : ∀ f, f < 3 → ∃ z : Nat, loF f ≤ z ∧ z ≤ hiF f ∧ (∀ x, ν (100 + f) x ↔ x = .int .i64 z) ∧ (∀ x, ν (110 + f) x ↔ SlZ z x) ∧ (∀ x, ν (120 + f) x ↔ GeZ z x)
  inp : ∀ s x, s < 16 → ν (2000 + s) x → ∃ n : Nat, n < 256 ∧ x = .int .u8 n ∧ n % 16 = s
  nam : ∀ a x, a < 256 → ν (3000 + a) x → ∃ n : Nat, n < 256 ∧ x = .int .u8 n ∧ ClsOK (a / 16) 8 (n % 9) ∧ ClsOK (a % 16) 28 (n / 9)
  byt : ∀ a x, a < 16 → ν (4000 + a) x → ∃ n : Nat, n < 256 ∧ x = .int .u8 n ∧ BytOK ν (a / 4) n ∧ ν (5000 + a % 4) (.int .u8 (n / 2 : Nat))
  hlf : ∀ a x, a < 4 → ν (5000 + a) x → ∃ n : Nat, n < 256 ∧ x = .int .u8 n ∧ BytOK ν a n
/-- What is outside: the worlds in which the run began; what others hold. -/
structure Ctx where
  ν : Nat → Value → Prop
  nu : NuOK ν
  w0 : World
  pr : Nat → Option Obj
  r0 : Nat → Blk
structure Rel (c : Ctx) (Γ : Gm) (m : M) (w : World) : Prop where
  os : w.os = c.w0.os
  tape : w.tape = c.w0.tape
  output : w.output = c.w0.output
  dom : ∀ k g, Γ k = some g → k < m.n ∧ g.blk < w.heap.size
  glob : ∀ k, k < 6 → ∃ N, Γ k = some ⟨k, 0, N⟩
  hold : ∀ k, m.get k ≠ .dead → ∃ g, Γ k = some g ∧ BOK c.ν Γ (m.get k) g w.heap
  dis : ∀ j k gj gk, j ≠ k → Γ j = some gj → Γ k = some gk → ownB (m.get j) → m.get k ≠ .dead → gj.blk ≠ gk.blk
  prot : ∀ b o, c.pr b = some o → w.heap[b]? = some o ∧ ∀ k g, Γ k = some g → m.get k ≠ .dead → g.blk ≠ b
  lg : ∀ k, k ∉ m.lg → m.get k = c.r0 k
  gl : ∀ g, g < 2 → ∃ A T fr y, c.pr g = some (.cells A T fr) ∧ A[0]? = some y ∧ y.oneCell' = true ∧ c.ν (1000 + g) y
variable {c : Ctx} {m m' : M} {w w' : World}
theorem Rel.at (h : Rel c Γ m w) {k : Nat} {g : G} (hg : Γ k = some g) (hd : m.get k ≠ .dead) : BOK c.ν Γ (m.get k) g w.heap := by
  obtain ⟨g', h1, h2⟩ := h.hold k hd
  rw [hg] at h1
  cases h1
  exact h2
theorem M.get_put (m : M) (k j : Nat) (b : Blk) : (m.put k b).get j = m.get j ∧ j ≠ k ∨ j = k ∧ ((m.put k b).get j = b ∨ (m.put k b).get j = .dead) := by
  by_cases h : j = k
  · subst h
    exact .inr ⟨rfl, g5_same j b m.t⟩
  · exact .inl ⟨g5_ne h, h⟩
/-- A block of one's own turns; the world turns there only. -/
theorem Rel.put (h : Rel c Γ m w) {k : Nat} {g : G} {b : Blk} (hg : Γ k = some g) (hown : ownB (m.get k)) (hos : w'.os = w.os) (ht : w'.tape = w.tape) (ho : w'.output = w.output) (hs : w'.heap.size = w.heap.size)
    (hw : ∀ j, j ≠ g.blk → w'.heap[j]? = w.heap[j]?) (hb : BOK c.ν Γ b g w'.heap) : Rel c Γ (m.put k b) w' := by
  have key : ∀ j, (m.put k b).get j ≠ .dead → m.get j ≠ .dead := fun j hj => by
    rcases M.get_put m k j b with ⟨e, _⟩ | ⟨rfl, _⟩
    · rwa [e] at hj
    · exact hown.1
  have keyo : ∀ j, ownB ((m.put k b).get j) → ownB (m.get j) := fun j hj => by
    rcases M.get_put m k j b with ⟨e, _⟩ | ⟨rfl, _⟩
    · rwa [e] at hj
    · exact hown
  refine ⟨hos.trans h.os, ht.trans h.tape, ho.trans h.output, fun j gj hj => ?_, h.glob, fun j hj => ?_, fun i j gi gj hij hi hj hio hjd => h.dis i j gi gj hij hi hj (keyo i hio) (key j hjd), fun q o hq => ?_, fun j hj => ?_, h.gl⟩
  · rw [hs]; exact h.dom j gj hj
  · rcases M.get_put m k j b with ⟨e, hne⟩ | ⟨rfl, e⟩
    · rw [e] at hj ⊢
      obtain ⟨gj, h1, h2⟩ := h.hold j hj
      refine ⟨gj, h1, h2.heap (hw _ ?_)⟩
      exact fun he => h.dis k j g gj (Ne.symm hne) hg h1 hown hj he.symm
    · refine ⟨g, hg, ?_⟩
      rcases e with e | e
      · rw [e]; exact hb
      · exact absurd e hj
  · obtain ⟨h1, h2⟩ := h.prot q o hq
    refine ⟨by rw [hw q (fun he => h2 k g hg hown.1 he.symm)]; exact h1, fun j gj hj hjo => h2 j gj hj (key j hjo)⟩
  · have hjm : j ∉ m.lg := fun hm => hj (List.mem_cons_of_mem _ hm)
    have hjk : j ≠ k := fun he => hj (by rw [he]; exact List.mem_cons_self ..)
    rcases M.get_put m k j b with ⟨e, _⟩ | ⟨he, _⟩
    · rw [e]; exact h.lg j hjm
    · exact absurd he hjk
/-- A block is forgotten. -/
theorem Rel.kill (h : Rel c Γ m w) (k : Nat) : Rel c Γ (m.kill k) w := by
  have hk : ∀ j, (m.kill k).get j = m.get j ∨ (m.kill k).get j = .dead := fun j => by
    rcases M.get_put m k j .dead with ⟨e, _⟩ | ⟨_, e | e⟩
    · exact .inl e
    · exact .inr e
    · exact .inr e
  have key : ∀ j, (m.kill k).get j ≠ .dead → (m.kill k).get j = m.get j := fun j hj => (hk j).resolve_right hj
  refine ⟨h.os, h.tape, h.output, h.dom, h.glob, fun j hj => ?_, fun i j gi gj hij hi hj hio hjd => ?_, fun q o hq => ?_, fun j hj => ?_, h.gl⟩
  · have e := key j hj
    rw [e]
    exact h.hold j (by rw [← e]; exact hj)
  · rw [key i hio.1] at hio
    rw [key j hjd] at hjd
    exact h.dis i j gi gj hij hi hj hio hjd
  · obtain ⟨h1, h2⟩ := h.prot q o hq
    refine ⟨h1, fun j gj hj hjo => h2 j gj hj ?_⟩
    rwa [key j hjo] at hjo
  · have hjm : j ∉ m.lg := fun hm => hj (List.mem_cons_of_mem _ hm)
    have hjk : j ≠ k := fun he => hj (by rw [he]; exact List.mem_cons_self ..)
    rcases M.get_put m k j .dead with ⟨e, _⟩ | ⟨he, _⟩
    · show (m.put k .dead).get j = _
      rw [e]; exact h.lg j hjm
    · exact absurd he hjk
/-- The world turns, but for what is known. -/
theorem Rel.idle (h : Rel c Γ m w) (hos : w'.os = w.os) (ht : w'.tape = w.tape) (ho : w'.output = w.output) (hs : w.heap.size ≤ w'.heap.size) (hw : ∀ j, j < w.heap.size → w'.heap[j]? = w.heap[j]?) : Rel c Γ m w' := by
  refine ⟨hos.trans h.os, ht.trans h.tape, ho.trans h.output, fun j gj hj => ⟨(h.dom j gj hj).1, Nat.lt_of_lt_of_le (h.dom j gj hj).2 hs⟩, h.glob, fun j hj => ?_, h.dis, fun q o hq => ?_, h.lg, h.gl⟩
  · obtain ⟨gj, h1, h2⟩ := h.hold j hj
    exact ⟨gj, h1, h2.heap (hw _ (h.dom j gj h1).2)⟩
  · obtain ⟨h1, h2⟩ := h.prot q o hq
    exact ⟨by rw [hw q (Array.getElem?_eq_some_iff.1 h1).1]; exact h1, h2⟩
def addG (Γ : Gm) (k : Nat) (g : G) : Gm := fun j => if j = k then some g else Γ j
theorem addG_same (Γ : Gm) (k : Nat) (g : G) : addG Γ k g k = some g := by simp [addG]
theorem addG_ne {k j : Nat} {g : G} (h : j ≠ k) : addG Γ k g j = Γ j := by simp [addG, h]
theorem Rel.fresh (h : Rel c Γ m w) : Γ m.n = none := by
  cases hk : Γ m.n with
  | none => rfl
  | some g => exact absurd (h.dom _ _ hk).1 (Nat.lt_irrefl _)
theorem LeG.add (h : Γ m.n = none) (g : G) : LeG Γ (addG Γ m.n g) := fun j gj hj => by
  by_cases hjn : j = m.n
  · rw [hjn, h] at hj; cases hj
  · rw [addG_ne hjn]; exact hj
noncomputable def M.add (m : M) (b : Blk) : M := ⟨m.n + 1, u5 .dead m.n b m.t, m.n :: m.lg⟩
theorem allo_eq {α : Type} (m : M) (b : Blk) (K : Nat → M → α) : allo m b K = K m.n (m.add b) := by
  unfold allo
  rw [frc_eq, frc_eq]
  rfl
/-- A new block, where nobody's is: the world may have made it just now, or it may be one that has been forgotten. -/
theorem Rel.new (h : Rel c Γ m w) {g : G} {b : Blk} (hlt : g.blk < w.heap.size) (hfree : ∀ k gk, Γ k = some gk → m.get k ≠ .dead → gk.blk ≠ g.blk) (hpr : ∀ q o, c.pr q = some o → g.blk ≠ q) (hb : BOK c.ν (addG Γ m.n g) b g w.heap) : Rel c (addG Γ m.n g) (m.add b) w := by
  have hf := h.fresh
  have hle := LeG.add hf g
  have hget : ∀ j, j ≠ m.n → (m.add b).get j = m.get j := fun j hj => g5_ne hj
  have hgn : (m.add b).get m.n = b ∨ (m.add b).get m.n = .dead := g5_same _ _ _
  refine ⟨h.os, h.tape, h.output, fun j gj hj => ?_, fun j hj => ?_, fun j hj => ?_, fun i j gi gj hij hi hj hio hjd => ?_, fun q o hq => ?_, fun j hj => ?_, h.gl⟩
  · by_cases hjn : j = m.n
    · subst hjn
      rw [addG_same] at hj
      cases hj
      exact ⟨Nat.lt_succ_self _, hlt⟩
    · rw [addG_ne hjn] at hj
      exact ⟨Nat.lt_succ_of_lt (h.dom j gj hj).1, (h.dom j gj hj).2⟩
  · obtain ⟨N, hN⟩ := h.glob j hj
    exact ⟨N, hle _ _ hN⟩
  · by_cases hjn : j = m.n
    · subst hjn
      refine ⟨g, addG_same _ _ _, ?_⟩
      rcases hgn with e | e
      · rw [e]; exact hb
      · exact absurd e hj
    · rw [hget j hjn] at hj ⊢
      obtain ⟨gj, h1, h2⟩ := h.hold j hj
      exact ⟨gj, hle _ _ h1, h2.mono hle⟩
  · by_cases hin : i = m.n
    · subst hin
      rw [addG_same] at hi
      cases hi
      have hjn : j ≠ m.n := Ne.symm hij
      rw [addG_ne hjn] at hj
      rw [hget j hjn] at hjd
      exact Ne.symm (hfree j gj hj hjd)
    · rw [addG_ne hin] at hi
      rw [hget i hin] at hio
      by_cases hjn : j = m.n
      · subst hjn
        rw [addG_same] at hj
        cases hj
        exact hfree i gi hi hio.1
      · rw [addG_ne hjn] at hj
        rw [hget j hjn] at hjd
        exact h.dis i j gi gj hij hi hj hio hjd
  · obtain ⟨h1, h2⟩ := h.prot q o hq
    refine ⟨h1, fun j gj hj hjo => ?_⟩
    by_cases hjn : j = m.n
    · subst hjn
      rw [addG_same] at hj
      cases hj
      exact hpr q o hq
    · rw [addG_ne hjn] at hj
      rw [hget j hjn] at hjo
      exact h2 j gj hj hjo
  · have hjm : j ∉ m.lg := fun hm => hj (List.mem_cons_of_mem _ hm)
    have hjk : j ≠ m.n := fun he => hj (by rw [he]; exact List.mem_cons_self ..)
    rw [hget j hjk]; exact h.lg j hjm
/-- .. which the world makes now. -/
theorem Rel.alloc (h : Rel c Γ m w) {b : Blk} {o : Obj} {N : Nat} (hos : w'.os = w.os) (ht : w'.tape = w.tape) (ho : w'.output = w.output) (hh : w'.heap = w.heap.push o) (hb : BOK c.ν (addG Γ m.n ⟨w.heap.size, 0, N⟩) b ⟨w.heap.size, 0, N⟩ w'.heap) :
    Rel c (addG Γ m.n ⟨w.heap.size, 0, N⟩) (m.add b) w' := by
  have h1 : Rel c Γ m w' := h.idle hos ht ho (by rw [hh]; simp) (fun j hj => by rw [hh, Array.getElem?_push_lt hj, Array.getElem?_eq_getElem hj])
  refine h1.new (by rw [hh]; simp) (fun k gk hk _ => Nat.ne_of_lt (h.dom k gk hk).2) (fun q o' hq => ?_) hb
  exact Ne.symm (Nat.ne_of_lt (Array.getElem?_eq_some_iff.1 (h.prot q o' hq).1).1)

/-! ### frames -/
/-- Marks that a frame holds. -/
def Mks (Γ : Gm) : List Nat → List Nat → Prop
  | [], l => l = []
  | k :: r, l => ∃ b s, l = b :: s ∧ (∃ g, Γ k = some g ∧ g.blk = b) ∧ Mks Γ r s
theorem Mks.mono (hl : LeG Γ Γ') : ∀ {ds l : List Nat}, Mks Γ ds l → Mks Γ' ds l
  | [], _, h => h
  | _ :: _, _, ⟨b, s, e, ⟨g, h1, h2⟩, h3⟩ => ⟨b, s, e, ⟨g, hl _ _ h1, h2⟩, h3.mono hl⟩
structure HasE (ν : Nat → Value → Prop) (Γ : Gm) (sz : Nat) (e : En) (ds : List Nat) (a : Act) : Prop where
  size : a.tmps.size = sz
  at_ : ∀ t, DV ν Γ (gE t e) (a.tmps.getD t undef)
  defers : ∃ l : List Nat, a.defers = l.map Sx.markD ∧ Mks Γ ds l
theorem HasE.mono {sz : Nat} {e : En} {ds : List Nat} {a : Act} (h : HasE ν Γ sz e ds a) (hl : LeG Γ Γ') : HasE ν Γ' sz e ds a := by
  refine ⟨h.size, fun t => (h.at_ t).mono hl, ?_⟩
  obtain ⟨l, h1, h2⟩ := h.defers
  exact ⟨l, h1, h2.mono hl⟩
theorem HasE.put {sz : Nat} {e : En} {ds : List Nat} {a : Act} (h : HasE ν Γ sz e ds a) {d : Nat} (hd : d < sz) {v : V} {x : Value} (hv : DV ν Γ v x) : HasE ν Γ sz (uE d v e) ds (a.put (some d) x) := by
  refine ⟨by simp [Act.put, h.size], fun t => ?_, h.defers⟩
  simp only [Act.put]
  by_cases ht : t = d
  · subst ht
    have e1 : (a.tmps.setIfInBounds t x).getD t undef = x := by
      rw [Array.getD_eq_getD_getElem?, Array.getElem?_setIfInBounds_self_of_lt (by rw [h.size]; exact hd)]
      rfl
    rw [e1]
    rcases gE_same t v e with e2 | e2
    · rw [e2]; exact hv
    · rw [e2, DV]; trivial
  · have e1 : (a.tmps.setIfInBounds d x).getD t undef = a.tmps.getD t undef := by
      rw [Array.getD_eq_getD_getElem?, Array.getElem?_setIfInBounds_ne (Ne.symm ht), ← Array.getD_eq_getD_getElem?]
    rw [e1, gE_ne ht]
    exact h.at_ t
theorem DV.undef : DV ν Γ (.tup []) undef := by rw [DV]; exact ⟨[], DVL.nil, rfl⟩
end Go.Proofs.YtiekoeapmhhjbaaGreatDoor.X
/- The interpreter is sound, part C: numbers, texts, constants. -/
namespace Go.Proofs.YtiekoeapmhhjbaaGreatDoor.X
open Go
set_option linter.unusedVariables false
set_option linter.unusedSimpArgs false
variable {ν : Nat → Value → Prop} {Γ Γ' : Gm}
theorem wrap_pos {k : IntKind} {a : Nat} (h : posI k a = true) : k.wrap a = a := by
  unfold posI at h
  rw [Nat.blt_eq] at h
  cases k <;> simp only [halfN] at h <;> simp [IntKind.wrap, IntKind.bits, IntKind.signed] <;> omega
theorem wrap_mod (k : IntKind) (a : Nat) : k.wrap ((a % modN k : Nat) : Int) = k.wrap a := by
  cases k <;> simp [IntKind.wrap, IntKind.bits, IntKind.signed, modN]
theorem wrap_modI (k : IntKind) (a : Int) : k.wrap a % (modN k : Int) = a % (modN k : Int) := by
  cases k <;> simp [IntKind.wrap, IntKind.bits, IntKind.signed, modN] <;> (try split) <;> omega
theorem wrap_congr {k : IntKind} {a b : Int} (h : a % (modN k : Int) = b % (modN k : Int)) : k.wrap a = k.wrap b := by
  have e : ((2 : Int) ^ k.bits) = (modN k : Int) := by cases k <;> rfl
  simp only [IntKind.wrap, e, h]
theorem modN_pos (k : IntKind) : 0 < modN k := by cases k <;> simp [modN]
theorem wrap_add (k : IntKind) (a b : Nat) : k.wrap (((a + b) % modN k : Nat) : Int) = k.wrap (k.wrap a + k.wrap b) := by
  rw [wrap_mod]
  refine wrap_congr ?_
  rw [Int.add_emod (k.wrap a), wrap_modI, wrap_modI, ← Int.add_emod]
  simp
theorem wrap_mul (k : IntKind) (a b : Nat) : k.wrap (((a * b) % modN k : Nat) : Int) = k.wrap (k.wrap a * k.wrap b) := by
  rw [wrap_mod]
  refine wrap_congr ?_
  rw [Int.mul_emod (k.wrap a), wrap_modI, wrap_modI, ← Int.mul_emod]
  simp
theorem wrap_sub (k : IntKind) (a b : Nat) : k.wrap (((a + (modN k - b % modN k)) % modN k : Nat) : Int) = k.wrap (k.wrap a - k.wrap b) := by
  rw [wrap_mod]
  refine wrap_congr ?_
  rw [Int.sub_emod (k.wrap a), wrap_modI, wrap_modI, ← Int.sub_emod]
  have h : b % modN k < modN k := Nat.mod_lt _ (modN_pos k)
  rw [Int.natCast_add, Int.natCast_sub (Nat.le_of_lt h), Int.natCast_emod]
  have e : (a : Int) + ((modN k : Int) - (b : Int) % (modN k : Int)) = (a : Int) - (b : Int) % (modN k : Int) + (modN k : Int) := by omega
  rw [e, Int.add_emod_right, Int.sub_emod, Int.emod_emod, ← Int.sub_emod]
theorem wrap_neg (k : IntKind) (b : Nat) : k.wrap (((modN k - b % modN k) % modN k : Nat) : Int) = k.wrap (0 - k.wrap b) := by
  have h := wrap_sub k 0 b
  have e : k.wrap ((0 : Nat) : Int) = 0 := by cases k <;> rfl
  rw [Nat.zero_add, e] at h
  exact h
theorem eqI_iff {k : IntKind} {a b : Nat} : eqI k a b = (k.wrap a == k.wrap b) := by
  rw [Bool.eq_iff_iff, beq_iff_eq]
  unfold eqI
  rw [Nat.beq_eq]
  constructor
  · intro h
    refine wrap_congr ?_
    have h' : a % modN k = b % modN k := h
    omega
  · intro h
    have h1 := wrap_modI k a
    have h2 := wrap_modI k b
    rw [h] at h1
    have : ((a % modN k : Nat) : Int) = ((b % modN k : Nat) : Int) := by
      rw [Int.natCast_emod, Int.natCast_emod]
      omega
    exact Int.ofNat.inj this
theorem wrap_bias (k : IntKind) (z : Int) : k.wrap z = (z + (biasN k : Int)) % (modN k : Int) - (biasN k : Int) := by
  cases k <;> simp [IntKind.wrap, IntKind.bits, IntKind.signed, modN, biasN] <;> (try split) <;> omega
theorem leI_iff {k : IntKind} {a b : Nat} : leI k a b = decide (k.wrap a ≤ k.wrap b) := by
  rw [Bool.eq_iff_iff, decide_eq_true_iff]
  unfold leI
  rw [Nat.ble_eq, wrap_bias, wrap_bias]
  show (a + biasN k) % modN k ≤ (b + biasN k) % modN k ↔ _
  rw [← Int.ofNat_le, Int.natCast_emod, Int.natCast_emod, Int.natCast_add, Int.natCast_add]
  constructor <;> intro h <;> omega
theorem notB_eq (b : Bool) : notB b = !b := by cases b <;> rfl
theorem eqBo_eq (a b : Bool) : eqBo a b = (a == b) := by cases a <;> cases b <;> rfl
theorem kn_inj {k q : IntKind} (h : Nat.beq (kn k) (kn q) = true) : k = q := by
  cases k <;> cases q <;> first | rfl | cases h
theorem cI_ok (k : IntKind) (n : Int) : DV ν Γ (cI k n) (.int k n) := by
  cases n with
  | ofNat a =>
    show DV ν Γ (bi (posI k a) (.int k a) .any) _
    cases h : posI k a with
    | true => rw [bi_t, DV, wrap_pos h]; rfl
    | false => rw [bi_f, DV]; trivial
  | negSucc a =>
    show DV ν Γ (bi (bi (Nat.beq (biasN k) 0) false (Nat.blt a (halfN k))) (.int k ((modN k - 1) - a)) .any) _
    cases h : bi (Nat.beq (biasN k) 0) false (Nat.blt a (halfN k)) with
    | false => rw [bi_f, DV]; trivial
    | true =>
      rw [bi_t, DV]
      have e : k.wrap (((modN k - 1) - a : Nat) : Int) = Int.negSucc a := by
        cases k <;> simp only [biasN, halfN, modN] at h ⊢ <;> first | (cases h; done) | skip
        all_goals
          have h2 : Nat.blt a _ = true := h
          rw [Nat.blt_eq] at h2
          rw [Int.negSucc_eq]
          simp [IntKind.wrap, IntKind.bits, IntKind.signed]
          omega
      rw [e]
theorem strB_strN (s : ByteArray) : strB (strN s) = s := by
  cases s with
  | mk d =>
    unfold strB strN
    simp [Function.comp_def]
theorem vOf_ok : ∀ (n : Nat) (v : Value), DV ν Γ (vOf n v) v := by
  intro n
  induction n with
  | zero => intro v; show DV ν Γ .any v; rw [DV]; trivial
  | succ n ih =>
    intro v
    have hL : ∀ l : List Value, DVL ν Γ (vOfL (vOf n) l) l := fun l => by
      induction l with
      | nil => exact DVL.nil
      | cons x r ihr => exact DVL.cons (ih x) ihr
    cases v with
    | bool b => show DV ν Γ (.bool b) _; rw [DV]
    | int k z => exact cI_ok k z
    | string s => show DV ν Γ (.str (strN s)) _; rw [DV, strB_strN]
    | pointer a =>
      cases a with
      | none => show DV ν Γ .nilP _; rw [DV]
      | some a => show DV ν Γ .any _; rw [DV]; trivial
    | slice a l c =>
      cases a with
      | none =>
        cases l with
        | zero =>
          cases c with
          | zero => show DV ν Γ .nilS _; rw [DV]
          | succ c => show DV ν Γ .any _; rw [DV]; trivial
        | succ l => show DV ν Γ .any _; rw [DV]; trivial
      | some a => show DV ν Γ .any _; rw [DV]; trivial
    | map r =>
      cases r with
      | none => show DV ν Γ .nilM _; rw [DV]
      | some a => show DV ν Γ .any _; rw [DV]; trivial
    | nilFunc => show DV ν Γ .nilF _; rw [DV]
    | nilIface => show DV ν Γ .nilI _; rw [DV]
    | agg cs =>
      show DV ν Γ (bi (lrec true (fun x _ r => match x with
        | .agg _ => false
        | .tuple _ => false
        | _ => r) cs.toList) (.agg (vOfL (vOf n) cs.toList)) .any) _
      have h1 : ∀ l : List Value, lrec true (fun (x : Value) (_ : List Value) (r : Bool) => match x with
        | .agg _ => false
        | .tuple _ => false
        | _ => r) l = true → ∀ y ∈ l, y.oneCell' = true := fun l => by
        induction l with
        | nil => intro _ y hy; cases hy
        | cons x r ihr =>
          intro h y hy
          have h2 : x.oneCell' = true ∧ lrec true (fun (x : Value) (_ : List Value) (r : Bool) => match x with
            | .agg _ => false
            | .tuple _ => false
            | _ => r) r = true := by
            cases x <;> first | exact ⟨rfl, h⟩ | (exact absurd h (by intro h; cases h))
          rcases List.mem_cons.1 hy with rfl | hy
          · exact h2.1
          · exact ihr h2.2 y hy
      generalize hq : (lrec true (fun (x : Value) (_ : List Value) (r : Bool) => match x with
        | .agg _ => false
        | .tuple _ => false
        | _ => r) cs.toList) = q
      cases q with
      | false => rw [bi_f, DV]; trivial
      | true => rw [bi_t, DV]; exact ⟨cs.toList, hL _, h1 _ hq, rfl⟩
    | tuple vs =>
      show DV ν Γ (.tup (vOfL (vOf n) vs.toList)) _
      rw [DV]
      exact ⟨vs.toList, hL _, rfl⟩
    | _ => show DV ν Γ .any _; rw [DV]; trivial
end Go.Proofs.YtiekoeapmhhjbaaGreatDoor.X
/- The interpreter is sound, part D: operations that do not look at memory. -/
namespace Go.Proofs.YtiekoeapmhhjbaaGreatDoor.X
open Go
set_option linter.unusedVariables false
set_option linter.unusedSimpArgs false
variable {c : Ctx} {Γ Γ' : Gm} {m m' : M} {w w' : World} {ρ : Operand → Value} {e : En}
/-- What an operation's run comes to. -/
def Ran (ρ : Operand → Value) (o : Oper) (w : World) (x : Value) (w' : World) : Prop := (execOp ρ o).run P w = .ok (.value x) w' ∨ ((execOp ρ o).run P w = .ok .skip w' ∧ x = undef)
def Out (c : Ctx) (Γ : Gm) (o : Oper) (ρ : Operand → Value) (w : World) (K : Kt) : Prop :=
  ∃ v m' Γ' x w', LeG Γ Γ' ∧ Rel c Γ' m' w' ∧ DV c.ν Γ' v x ∧ Yes (K v m') ∧ Ran ρ o w x w'
/-- The operation is as the interpreter has it. -/
def OpOK (c : Ctx) (op : Op) : Prop := ∀ (e : En) (m : M) (K : Kt) (Γ : Gm) (w : World) (ρ : Operand → Value) (dst : Option Tmp) (T : TypeId) (pos : String) (af : Array Edge) (gu : Option (Nat × Bool)),
  Rel c Γ m w → (∀ x, DV c.ν Γ (ev x e) (ρ x)) → Yes ((cOp op).f e m K) → Out c Γ ⟨dst, op, T, pos, af, gu⟩ ρ w K
theorem Out.pure {o : Oper} {K : Kt} {v : V} {x : Value} (hR : Rel c Γ m w) (hy : Yes (K v m)) (hv : DV c.ν Γ v x) (h : (execOp ρ o).run P w = .ok (.value x) w) : Out c Γ o ρ w K := ⟨v, m, Γ, x, w, LeG.refl _, hR, hv, hy, .inl h⟩
theorem ev_ok {sz : Nat} {ds : List Nat} {a : Act} (hR : Rel c Γ m w) (h : HasE c.ν Γ sz e ds a) (x : Operand) : DV c.ν Γ (ev x e) (a.eval x) := by
  have e1 : ev x e = (cEv x).f e := bx _ _
  rw [e1]
  cases x with
  | tmp t =>
    show DV c.ν Γ ((g3B .any t).f e) _
    rw [← gE_f]
    exact h.at_ t
  | const v => exact vOf_ok 4 v
  | func f => show DV c.ν Γ (.func f [] []) _; rw [DV]; exact ⟨[], [], DVL.nil, DVL.nil, rfl⟩
  | global g =>
    show DV c.ν Γ (bi (Nat.blt g 6) (.ptr g 0) .any) _
    cases hg : Nat.blt g 6 with
    | false => rw [bi_f, DV]; trivial
    | true =>
      rw [bi_t, DV]
      rw [Nat.blt_eq] at hg
      obtain ⟨N, hN⟩ := hR.glob g hg
      exact ⟨_, hN, rfl⟩
theorem dv_bool {b : Bool} {x : Value} (h : DV c.ν Γ (.bool b) x) : x = .bool b := by rwa [DV] at h
theorem dv_int {k : IntKind} {n : Nat} {x : Value} (h : DV c.ν Γ (.int k n) x) : x = .int k (k.wrap n) := by rwa [DV] at h
theorem dv_str {s : List Nat} {x : Value} (h : DV c.ν Γ (.str s) x) : x = .string (strB s) := by rwa [DV] at h
theorem dv_ptr {b o : Nat} {x : Value} (h : DV c.ν Γ (.ptr b o) x) : ∃ g, Γ b = some g ∧ x = .pointer (some ⟨g.blk, g.sh + o, none⟩) := by rwa [DV] at h
theorem dv_tup {l : List V} {x : Value} (h : DV c.ν Γ (.tup l) x) : ∃ ys, DVL c.ν Γ l ys ∧ x = .tuple ys.toArray := by rwa [DV] at h
theorem dv_agg {l : List V} {x : Value} (h : DV c.ν Γ (.agg l) x) : ∃ ys, DVL c.ν Γ l ys ∧ (∀ y ∈ ys, y.oneCell' = true) ∧ x = .agg ys.toArray := by rwa [DV] at h
theorem dv_slice {b o l : Nat} {cp : Cap} {x : Value} (h : DV c.ν Γ (.slice b o l cp) x) : ∃ g p, Γ b = some g ∧ CapOK g o cp l p ∧ x = .slice (some ⟨g.blk, g.sh + o, none⟩) l p := by rwa [DV] at h
theorem dv_emp {z : Bool} {x : Value} (h : DV c.ν Γ (.emp z) x) : ∃ a p, (z = true → p = 0) ∧ x = .slice (some a) 0 p := by rwa [DV] at h
theorem dv_map {r : Nat} {x : Value} (h : DV c.ν Γ (.map r) x) : ∃ g, Γ r = some g ∧ x = .map (some g.blk) := by rwa [DV] at h
theorem dv_iface {t : TypeId} {v : V} {x : Value} (h : DV c.ν Γ (.iface t v) x) : ∃ y, DV c.ν Γ v y ∧ x = .iface t y := by rwa [DV] at h
theorem dv_rng {k : IntKind} {lo hi : Nat} {x : Value} (h : DV c.ν Γ (.rng k lo hi) x) : ∃ n : Nat, lo ≤ n ∧ n ≤ hi ∧ x = .int k (k.wrap n) := by rwa [DV] at h
theorem dv_nilS {x : Value} (h : DV c.ν Γ .nilS x) : x = .slice none 0 0 := by rwa [DV] at h
theorem dv_nilP {x : Value} (h : DV c.ν Γ .nilP x) : x = .pointer none := by rwa [DV] at h
theorem dv_nilM {x : Value} (h : DV c.ν Γ .nilM x) : x = .map none := by rwa [DV] at h
theorem dv_nilF {x : Value} (h : DV c.ν Γ .nilF x) : x = .nilFunc := by rwa [DV] at h
theorem dv_nilI {x : Value} (h : DV c.ν Γ .nilI x) : x = .nilIface := by rwa [DV] at h
theorem dv_func {f : FuncId} {a d : List V} {x : Value} (h : DV c.ν Γ (.func f a d) x) : ∃ ys zs, DVL c.ν Γ a ys ∧ DVL c.ν Γ d zs ∧ x = .func (.func f) ys.toArray zs.toArray := by rwa [DV] at h
theorem dv_yld {l : Nat} {x : Value} (h : DV c.ν Γ (.yld l) x) : ∃ g, Γ l = some g ∧ x = .func (.yield g.blk) #[] #[] := by rwa [DV] at h
theorem mk_bool {b : Bool} : DV c.ν Γ (.bool b) (.bool b) := by rw [DV]
theorem mk_int {k : IntKind} {n : Nat} {z : Int} (h : k.wrap n = z) : DV c.ν Γ (.int k n) (.int k z) := by rw [DV, h]
theorem mk_str {s : List Nat} {b : ByteArray} (h : strB s = b) : DV c.ν Γ (.str s) (.string b) := by rw [DV, h]
theorem mk_ptr {b o : Nat} {g : G} (h : Γ b = some g) : DV c.ν Γ (.ptr b o) (.pointer (some ⟨g.blk, g.sh + o, none⟩)) := by rw [DV]; exact ⟨g, h, rfl⟩
theorem mk_tup0 : DV c.ν Γ (.tup []) (.tuple #[]) := by rw [DV]; exact ⟨[], DVL.nil, rfl⟩
theorem mk_iface {t : TypeId} {v : V} {x : Value} (h : DV c.ν Γ v x) : DV c.ν Γ (.iface t v) (.iface t x) := by rw [DV]; exact ⟨x, h, rfl⟩
theorem intV_eq (n : Nat) : intV n = .int .i64 n := by unfold intV; rw [frc_eq]

theorem OpOK.move (x : Operand) : OpOK c (.move x) := fun e m K Γ w ρ dst T pos af gu hR hρ h => Out.pure hR h (hρ x) (by simp [execOp])
theorem OpOK.assign (x : Operand) : OpOK c (.assign x) := fun e m K Γ w ρ dst T pos af gu hR hρ h => Out.pure hR h (hρ x) (by simp [execOp])
theorem OpOK.pick (q a b : Operand) : OpOK c (.pick q a b) := fun e m K Γ w ρ dst T pos af gu hR hρ h => by
  have h' : Yes ((ev q e).onBool (fun t => K (bi t (ev a e) (ev b e)) m) none) := h
  obtain ⟨t, ht, hy⟩ := yes_onBool h'
  have hq := hρ q
  rw [ht] at hq
  have hq := dv_bool hq
  cases t
  · exact Out.pure hR hy (hρ b) (by simp [execOp, hq, go_sem])
  · exact Out.pure hR hy (hρ a) (by simp [execOp, hq, go_sem])
theorem OpOK.nilCheck (x : Operand) : OpOK c (.nilCheck x) := fun e m K Γ w ρ dst T pos af gu hR hρ h => by
  have h' : Yes ((ev x e).onPtr (fun b o => K (.ptr b o) m) (ovm (xNil (ev x e)) m K)) := h
  have hx := hρ x
  cases hv : ev x e <;> rw [hv] at h' hx <;> first | exact (yes_none h').elim | skip
  · have hy : Yes (K _ m) := h'
    obtain ⟨g, hg, hp⟩ := dv_ptr hx
    rw [hp] at hx
    exact Out.pure hR hy hx (by simp [execOp, hp, go_sem])
  · have hy : Yes (K _ m) := h'
    obtain ⟨ys, zs, _, _, hp⟩ := dv_func hx
    rw [hp] at hx
    exact Out.pure hR hy hx (by simp [execOp, hp, go_sem])
  · have hy : Yes (K _ m) := h'
    obtain ⟨g, hg, hp⟩ := dv_yld hx
    rw [hp] at hx
    exact Out.pure hR hy hx (by simp [execOp, hp, go_sem])
theorem OpOK.extract (x : Operand) (i : Nat) : OpOK c (.extract x i) := fun e m K Γ w ρ dst T pos af gu hR hρ h => by
  have h' : Yes ((ev x e).onTup (fun vs => ovm (headO (dropL i vs)) m K) none) := h
  obtain ⟨l, hl, hy⟩ := yes_onTup h'
  obtain ⟨v, hv, hy⟩ := yes_ovm hy
  have hx := hρ x
  rw [hl] at hx
  obtain ⟨ys, hys, hp⟩ := dv_tup hx
  rw [headO_eq, dropL_eq] at hv
  obtain ⟨y, h1, h2⟩ := (hys.drop i).head hv
  have h3 : ys.toArray[i]? = some y := by simpa [List.head?_drop] using h1
  exact Out.pure hR hy h2 (by simp [execOp, hp, go_sem, Instr.extract, h3])
theorem OpOK.makeInterface (t : TypeId) (x : Operand) : OpOK c (.makeInterface t x) := fun e m K Γ w ρ dst T pos af gu hR hρ h => by
  have e1 : cOp (.makeInterface t x) = bi (plainT P t) (⟨fun e m K => K (.iface t (ev x e)) m⟩ : Bx Op1) failO := by kernel_rfl
  have h' := h
  rw [e1] at h'
  have hk : plainT P t = true ∧ Yes (K (.iface t (ev x e)) m) := by
    cases hb : plainT P t with
    | false => rw [hb] at h'; exact (yes_none h').elim
    | true => rw [hb] at h'; exact ⟨rfl, h'⟩
  obtain ⟨u, hu, hne⟩ : ∃ u, P.underlying t = some u ∧ ∀ ms, u ≠ .interface ms := by
    have h1 := hk.1
    unfold plainT at h1
    cases hu : P.underlying t with
    | none => rw [hu] at h1; cases h1
    | some u =>
      rw [hu] at h1
      cases u <;> first | (cases h1; done) | exact ⟨_, rfl, fun ms h => by cases h⟩
  refine Out.pure hR hk.2 (x := .iface t (ρ x)) (mk_iface (hρ x)) ?_
  have : (Instr.makeInterface t (ρ x)).run P w = .ok (.iface t (ρ x)) w := by
    unfold Instr.makeInterface
    simp only [Sem.run_bind, run_underlying hu, Result.andThen_ok]
    cases u <;> first | (exact absurd rfl (hne _)) | rfl
  simp [execOp, this]
theorem evl_ok (hρ : ∀ x, DV c.ν Γ (ev x e) (ρ x)) : ∀ l : List Operand, DVL c.ν Γ (evl e l) (l.map ρ)
  | [] => DVL.nil
  | x :: r => DVL.cons (hρ x) (evl_ok hρ r)
theorem OpOK.makeFunc (f : Fn) (a b : Array Operand) : OpOK c (.makeFunc f a b) := fun e m K Γ w ρ dst T pos af gu hR hρ h => by
  cases f with
  | func f =>
    have hy : Yes (K (.func f (evl e a.toList) (evl e b.toList)) m) := h
    refine Out.pure hR hy (x := .func (.func f) (a.map ρ) (b.map ρ)) ?_ (by simp [execOp, go_sem, Instr.makeFunc])
    rw [DV]
    refine ⟨_, _, evl_ok hρ _, evl_ok hρ _, ?_⟩
    congr 1 <;> (apply Array.ext'; simp)
  | _ => exact (yes_none h).elim
end Go.Proofs.YtiekoeapmhhjbaaGreatDoor.X
/- The interpreter is sound, part E: operations with two operands, with one. -/
namespace Go.Proofs.YtiekoeapmhhjbaaGreatDoor.X
open Go
set_option linter.unusedVariables false
set_option linter.unusedSimpArgs false
variable {c : Ctx} {Γ Γ' : Gm} {m m' : M} {w w' : World} {ρ : Operand → Value} {e : En}
theorem kI_eq {α : Type} (K : V → α) (k : IntKind) (n : Nat) : kI K k n = K (.int k n) := by unfold kI; rw [frc_eq]
theorem posI_lt {k : IntKind} {a : Nat} (h : posI k a = true) : a < halfN k := by unfold posI at h; rwa [Nat.blt_eq] at h
theorem posI_of {k : IntKind} {a b : Nat} (h : posI k a = true) (hb : b ≤ a) : posI k b = true := by
  unfold posI at h ⊢; rw [Nat.blt_eq] at h ⊢; omega
theorem halfN_le (k : IntKind) : halfN k ≤ modN k := by cases k <;> simp [halfN, modN]
theorem bv_toNat (k : IntKind) (a : Nat) : (BitVec.ofInt k.bits (k.wrap a)).toNat = a % modN k := by
  have e : ((2 ^ k.bits : Nat) : Int) = (modN k : Int) := by cases k <;> rfl
  rw [BitVec.toNat_ofInt, e, wrap_modI, ← Int.natCast_emod]
  rfl
/-- An operation on two numbers of a kind: what the model says is what is handed on. -/
theorem intOp_ok {Q : Program} {op : BinOp} {k : IntKind} {a b : Nat} {K : V → A} {t : TypeId} (hs : shN op = 0) (h : Yes (intOp op k a b K none)) :
    ∃ v x, DV c.ν Γ v x ∧ Yes (K v) ∧ ∀ w, (binOp op t (.int k (k.wrap a)) (.int k (k.wrap b))).run Q w = .ok x w := by
  cases op with
  | add =>
    have h' : Yes (kI K k ((a + b) % modN k)) := h
    rw [kI_eq] at h'
    exact ⟨_, _, mk_int (wrap_add k a b), h', fun w => by simp [binOp, Op.intArith]⟩
  | sub =>
    have h' : Yes (kI K k ((a + (modN k - b % modN k)) % modN k)) := h
    rw [kI_eq] at h'
    exact ⟨_, _, mk_int (wrap_sub k a b), h', fun w => by simp [binOp, Op.intArith]⟩
  | mul =>
    have h' : Yes (kI K k ((a * b) % modN k)) := h
    rw [kI_eq] at h'
    exact ⟨_, _, mk_int (wrap_mul k a b), h', fun w => by simp [binOp, Op.intArith]⟩
  | quo =>
    have h' : Yes (bi (posI k a) (bi (posI k b) (bi (Nat.beq b 0) none (kI K k (a / b))) none) none) := h
    obtain ⟨h1, h'⟩ := yes_bi h'
    obtain ⟨h2, h'⟩ := yes_bi h'
    obtain ⟨h3, h'⟩ := yes_bi' h'
    rw [kI_eq] at h'
    have hb : b ≠ 0 := by
      rintro rfl
      cases h3
    refine ⟨_, _, mk_int rfl, h', fun w => ?_⟩
    rw [wrap_pos h1, wrap_pos h2]
    simp [binOp, Op.intDiv, hb]
  | rem =>
    have h' : Yes (bi (posI k a) (bi (posI k b) (bi (Nat.beq b 0) none (kI K k (a % b))) none) none) := h
    obtain ⟨h1, h'⟩ := yes_bi h'
    obtain ⟨h2, h'⟩ := yes_bi h'
    obtain ⟨h3, h'⟩ := yes_bi' h'
    rw [kI_eq] at h'
    have hb : b ≠ 0 := by
      rintro rfl
      cases h3
    refine ⟨_, _, mk_int (wrap_pos (posI_of h1 (Nat.mod_le a b))), h', fun w => ?_⟩
    rw [wrap_pos h1, wrap_pos h2]
    simp [binOp, Op.intDiv, hb]
    exact Int.tmod_eq_emod_of_nonneg (Int.natCast_nonneg a)
  | and =>
    have h' : Yes (kI K k (Nat.land (a % modN k) (b % modN k))) := h
    rw [kI_eq] at h'
    refine ⟨_, _, mk_int rfl, h', fun w => ?_⟩
    simp only [binOp, Op.intBits, ne_eq, not_true_eq_false, if_false]
    show Result.ok (Value.int k (k.wrap _)) w = _
    rw [BitVec.toNat_and, bv_toNat, bv_toNat]
    rfl
  | or =>
    have h' : Yes (kI K k (Nat.lor (a % modN k) (b % modN k))) := h
    rw [kI_eq] at h'
    refine ⟨_, _, mk_int rfl, h', fun w => ?_⟩
    simp only [binOp, Op.intBits, ne_eq, not_true_eq_false, if_false]
    show Result.ok (Value.int k (k.wrap _)) w = _
    rw [BitVec.toNat_or, bv_toNat, bv_toNat]
    rfl
  | xor =>
    have h' : Yes (kI K k (Nat.xor (a % modN k) (b % modN k))) := h
    rw [kI_eq] at h'
    refine ⟨_, _, mk_int rfl, h', fun w => ?_⟩
    simp only [binOp, Op.intBits, ne_eq, not_true_eq_false, if_false]
    show Result.ok (Value.int k (k.wrap _)) w = _
    rw [BitVec.toNat_xor, bv_toNat, bv_toNat]
    rfl
  | shl => cases hs
  | shr => cases hs
  | andNot => exact (yes_none h).elim
  | eql =>
    have h' : Yes (bi (eqI k a b) (K (.bool true)) (K (.bool false))) := h
    refine ⟨.bool (eqI k a b), _, mk_bool, ?_, fun w => ?_⟩
    · cases hq : eqI k a b <;> rw [hq] at h' <;> exact h'
    · simp [binOp, Op.intCmp, eqI_iff]
  | neq =>
    have h' : Yes (bi (notB (eqI k a b)) (K (.bool true)) (K (.bool false))) := h
    refine ⟨.bool (notB (eqI k a b)), _, mk_bool, ?_, fun w => ?_⟩
    · cases hq : notB (eqI k a b) <;> rw [hq] at h' <;> exact h'
    · simp [binOp, Op.intCmp, eqI_iff, notB_eq, bne]
  | lss =>
    have h' : Yes (bi (notB (leI k b a)) (K (.bool true)) (K (.bool false))) := h
    refine ⟨.bool (notB (leI k b a)), _, mk_bool, ?_, fun w => ?_⟩
    · cases hq : notB (leI k b a) <;> rw [hq] at h' <;> exact h'
    · simp [binOp, Op.intCmp, leI_iff, notB_eq, ← decide_not, Int.not_le]
  | leq =>
    have h' : Yes (bi (leI k a b) (K (.bool true)) (K (.bool false))) := h
    refine ⟨.bool (leI k a b), _, mk_bool, ?_, fun w => ?_⟩
    · cases hq : leI k a b <;> rw [hq] at h' <;> exact h'
    · simp [binOp, Op.intCmp, leI_iff]
  | gtr =>
    have h' : Yes (bi (notB (leI k a b)) (K (.bool true)) (K (.bool false))) := h
    refine ⟨.bool (notB (leI k a b)), _, mk_bool, ?_, fun w => ?_⟩
    · cases hq : notB (leI k a b) <;> rw [hq] at h' <;> exact h'
    · simp [binOp, Op.intCmp, leI_iff, notB_eq, ← decide_not, Int.not_le]
  | geq =>
    have h' : Yes (bi (leI k b a) (K (.bool true)) (K (.bool false))) := h
    refine ⟨.bool (leI k b a), _, mk_bool, ?_, fun w => ?_⟩
    · cases hq : leI k b a <;> rw [hq] at h' <;> exact h'
    · simp [binOp, Op.intCmp, leI_iff]
theorem wrap_shl (k : IntKind) (a p : Nat) : k.wrap (((a * p) % modN k : Nat) : Int) = k.wrap (k.wrap a * p) := by
  rw [wrap_mod]
  refine wrap_congr ?_
  rw [Int.mul_emod (k.wrap a), wrap_modI, ← Int.mul_emod]
  simp
theorem shOp_ok {Q : Program} {op : BinOp} {s : Nat} {k q : IntKind} {a b : Nat} {K : V → A} {t : TypeId} (hs : shN op = s + 1) (h : Yes (shOp (s + 1) k a q b K none)) :
    ∃ v x, DV c.ν Γ v x ∧ Yes (K v) ∧ ∀ w, (binOp op t (.int k (k.wrap a)) (.int q (q.wrap b))).run Q w = .ok x w := by
  have h' : Yes (bi (Nat.ble b (bitsN k)) (bi (posI q b) (bi (Nat.beq (s + 1) 1) (kI K k ((a * 2 ^ b) % modN k)) (bi (posI k a) (kI K k (a / 2 ^ b)) none)) none) none) := h
  obtain ⟨h1, h'⟩ := yes_bi h'
  obtain ⟨h2, h'⟩ := yes_bi h'
  rw [Nat.ble_eq] at h1
  have hb : min b k.bits = b := by
    have : bitsN k = k.bits := by cases k <;> rfl
    omega
  have hq := wrap_pos h2
  have hnn : ¬ ((b : Int) < 0) := by omega
  cases op <;> simp only [shN] at hs <;> first | (cases hs; done) | skip
  · have hs0 : s = 0 := by omega
    subst hs0
    have h3 : Yes (kI K k ((a * 2 ^ b) % modN k)) := h'
    rw [kI_eq] at h3
    refine ⟨_, _, mk_int (wrap_shl k a (2 ^ b)), h3, fun w => ?_⟩
    rw [hq]
    simp [binOp, Op.shift, hnn, hb]
  · have hs1 : s = 1 := by omega
    subst hs1
    have h3 : Yes (bi (posI k a) (kI K k (a / 2 ^ b)) none) := h'
    obtain ⟨h4, h3⟩ := yes_bi h3
    rw [kI_eq] at h3
    refine ⟨_, _, mk_int (wrap_pos (posI_of h4 (Nat.div_le_self _ _))), h3, fun w => ?_⟩
    rw [hq, wrap_pos h4]
    simp [binOp, Op.shift, hnn, hb]
    rw [Int.fdiv_eq_ediv_of_nonneg _ (by exact Int.le_of_lt (Int.pow_pos (by decide)))]
end Go.Proofs.YtiekoeapmhhjbaaGreatDoor.X
/- The interpreter is sound, part RA: numbers and rows that have names. -/
namespace Go.Proofs.YtiekoeapmhhjbaaGreatDoor.X
open Go
set_option linter.unusedVariables false
set_option linter.unusedSimpArgs false
set_option linter.constructorNameAsVariable false
variable {c : Ctx} {Γ Γ' : Gm} {m m' : M} {w w' : World} {ρ : Operand → Value} {e : En} {Q : Program}
theorem btw_iff {a i b : Nat} : btw a i b = true ↔ a ≤ i ∧ i < b := by
  unfold btw
  cases h : Nat.ble a i with
  | true => rw [bi_t, Nat.blt_eq]; rw [Nat.ble_eq] at h; exact ⟨fun k => ⟨h, k⟩, fun k => k.2⟩
  | false =>
    rw [bi_f]
    have : ¬ a ≤ i := fun k => by rw [Nat.ble_eq_true_of_le k] at h; cases h
    constructor
    · intro k; cases k
    · intro k; exact absurd k.1 this
theorem nsub (a b : Nat) : Nat.sub a b = a - b := rfl
theorem nmod (a b : Nat) : Nat.mod a b = a % b := rfl
theorem nadd (a b : Nat) : Nat.add a b = a + b := rfl
theorem ndiv (a b : Nat) : Nat.div a b = a / b := rfl
theorem famN_eq {i f : Nat} (h : famN i = some f) : i = 100 + f ∧ f < 3 := by
  unfold famN at h
  rw [bi_eq, btw_iff] at h
  obtain ⟨⟨h1, h2⟩, h3⟩ := h
  cases h3
  show i = 100 + (i - 100) ∧ i - 100 < 3
  omega
theorem famS_eq {i f : Nat} (h : famS i = some f) : i = 110 + f ∧ f < 3 := by
  unfold famS at h
  rw [bi_eq, btw_iff] at h
  obtain ⟨⟨h1, h2⟩, h3⟩ := h
  cases h3
  show i = 110 + (i - 110) ∧ i - 110 < 3
  omega
theorem famG_eq {i f : Nat} (h : famG i = some f) : i = 120 + f ∧ f < 3 := by
  unfold famG at h
  rw [bi_eq, btw_iff] at h
  obtain ⟨⟨h1, h2⟩, h3⟩ := h
  cases h3
  show i = 120 + (i - 120) ∧ i - 120 < 3
  omega
theorem dv_opq {i : Nat} {x : Value} (h : DV c.ν Γ (.opq i) x) : c.ν i x ∧ x.oneCell' = true := by rwa [DV] at h
theorem mk_opq {i : Nat} {x : Value} (h : c.ν i x) (h1 : x.oneCell' = true) : DV c.ν Γ (.opq i) x := by rw [DV]; exact ⟨h, h1⟩
theorem wrap64 {n : Nat} (h : n < 9223372036854775808) : IntKind.i64.wrap (n : Int) = n := wrap_pos (by unfold posI; rw [Nat.blt_eq]; exact h)
theorem wrap_u8 {n : Nat} (h : n < 256) : IntKind.u8.wrap (n : Int) = n := wrap_pos (by unfold posI; rw [Nat.blt_eq]; exact h)
theorem mk_i64 {n : Nat} (h : n < 9223372036854775808) : DV c.ν Γ (.int .i64 n) (.int .i64 n) := mk_int (wrap64 h)
theorem mk_rng {k : IntKind} {lo hi n : Nat} (h1 : lo ≤ n) (h2 : n ≤ hi) (h : k.wrap (n : Int) = n) : DV c.ν Γ (.rng k lo hi) (.int k n) := by
  rw [DV]; exact ⟨n, h1, h2, by rw [h]⟩
theorem hiF_le (f : Nat) : hiF f ≤ 60 := by
  unfold hiF
  cases Nat.beq f 1 <;> decide
theorem asR_ok {v : V} {X : Value} {p : Nat × Nat} (h : asR v = some p) (hv : DV c.ν Γ v X) : ∃ n : Nat, p.1 ≤ n ∧ n ≤ p.2 ∧ n < lim40 ∧ X = .int .i64 n := by
  unfold asR at h
  split at h
  · rename_i b
    rw [bi_eq, Nat.blt_eq] at h
    obtain ⟨h1, h2⟩ := h
    cases h2
    refine ⟨b, Nat.le_refl _, Nat.le_refl _, h1, ?_⟩
    rw [dv_int hv, wrap64 (by unfold lim40 at h1; omega)]
  · rename_i lo hi
    rw [bi_eq, Nat.blt_eq] at h
    obtain ⟨h1, h2⟩ := h
    cases h2
    obtain ⟨n, hn1, hn2, rfl⟩ := dv_rng hv
    refine ⟨n, hn1, hn2, Nat.lt_of_le_of_lt hn2 h1, ?_⟩
    rw [wrap64 (by unfold lim40 at h1; omega)]
  · rename_i i
    rw [ob_eq] at h
    obtain ⟨f, hf, h⟩ := h
    cases h
    obtain ⟨rfl, hf3⟩ := famN_eq hf
    obtain ⟨z, h1, h2, h3, _⟩ := c.nu.fam f hf3
    refine ⟨z, h1, h2, ?_, (h3 _).1 (dv_opq hv).1⟩
    have := hiF_le f
    unfold lim40
    omega
  · cases h
theorem opN_ok {v : V} {X : Value} {f : Nat} (h : opN v = some f) (hv : DV c.ν Γ v X) : f < 3 ∧ v = .opq (100 + f) ∧ ∃ z : Nat, loF f ≤ z ∧ z ≤ hiF f ∧ X = .int .i64 z ∧ (∀ x, c.ν (100 + f) x ↔ x = .int .i64 z) ∧ (∀ x, c.ν (110 + f) x ↔ SlZ z x) ∧ (∀ x, c.ν (120 + f) x ↔ GeZ z x) := by
  unfold opN at h
  split at h
  · rename_i i
    obtain ⟨rfl, hf⟩ := famN_eq h
    obtain ⟨z, h1, h2, h3, h4, h5⟩ := c.nu.fam f hf
    exact ⟨hf, rfl, z, h1, h2, (h3 _).1 (dv_opq hv).1, h3, h4, h5⟩
  · cases h
theorem opG_ok {v : V} {X : Value} {f : Nat} (h : opG v = some f) (hv : DV c.ν Γ v X) : c.ν (120 + f) X := by
  unfold opG at h
  split at h
  · rename_i i
    obtain ⟨rfl, hf⟩ := famG_eq h
    exact (dv_opq hv).1
  · cases h
theorem isZ_ok {v : V} {X : Value} (h : isZ v = true) (hv : DV c.ν Γ v X) : X = .int .i64 0 := by
  unfold isZ at h
  split at h
  · rename_i b
    rw [Nat.beq_eq] at h
    subst h
    rw [dv_int hv]
    rfl
  · cases h
theorem symAdd_ok {x y v : V} {X Y : Value} {t : TypeId} (hx : DV c.ν Γ x X) (hy : DV c.ν Γ y Y) (h : symAdd x y = some v) : ∃ z, DV c.ν Γ v z ∧ ∀ w, (binOp .add t X Y).run Q w = .ok z w := by
  unfold symAdd at h
  rw [ob_eq] at h
  obtain ⟨p, hp, h⟩ := h
  rw [ob_eq] at h
  obtain ⟨q, hq, h⟩ := h
  obtain ⟨a, a1, a2, a3, eX⟩ := asR_ok hp hx
  obtain ⟨b, b1, b2, b3, eY⟩ := asR_ok hq hy
  have hl : lim40 = 1099511627776 := rfl
  have hrun : ∀ w, (binOp .add t X Y).run Q w = .ok (.int .i64 ((a + b : Nat) : Int)) w := fun w => by
    rw [eX, eY]
    have e4 : IntKind.i64.wrap ((a : Int) + (b : Int)) = ((a + b : Nat) : Int) := by rw [← Int.natCast_add]; exact wrap64 (by omega)
    simp [binOp, Op.intArith, e4]
  refine ⟨_, ?_, hrun⟩
  cases hz : isZ x with
  | true =>
    rw [hz, bi_t] at h
    cases h
    have := isZ_ok hz hx
    rw [eX] at this
    cases this
    have e : ((0 : Nat) + b : Nat) = b := Nat.zero_add b
    rw [e, ← eY]
    exact hy
  | false =>
    rw [hz, bi_f] at h
    split at h
    · rename_i f hf
      cases h
      obtain ⟨_, rfl, z, z1, z2, ez, _, _, h5⟩ := opN_ok hf hx
      rw [eX] at ez
      cases ez
      exact mk_opq ((h5 _).2 ⟨a + b, Nat.le_add_right _ _, by omega, rfl⟩) rfl
    · cases h
      exact mk_rng (Nat.add_le_add a1 b1) (Nat.add_le_add a2 b2) (wrap64 (by omega))
theorem lesN_eq (a b : Nat) : lesN a b = min a b := by
  unfold lesN
  cases h : Nat.ble a b with
  | true => rw [Nat.ble_eq] at h; rw [bi_t]; omega
  | false =>
    have : ¬ a ≤ b := fun k => by rw [Nat.ble_eq_true_of_le k] at h; cases h
    rw [bi_f]; omega
theorem grtN_eq (a b : Nat) : grtN a b = max a b := by
  unfold grtN
  cases h : Nat.ble a b with
  | true => rw [Nat.ble_eq] at h; rw [bi_t]; omega
  | false =>
    have : ¬ a ≤ b := fun k => by rw [Nat.ble_eq_true_of_le k] at h; cases h
    rw [bi_f]; omega
theorem min_run (a b : Nat) (w : World) : (Builtin.min2 (.int .i64 a) (.int .i64 b)).run Q w = .ok (.int .i64 (min a b : Nat)) w := by
  by_cases hlt : b < a
  · have e : min a b = b := by omega
    have hlt' : (b : Int) < a := by omega
    simp [Builtin.min2, hlt, e]
  · have e : min a b = a := by omega
    simp [Builtin.min2, hlt, e]
theorem max_run (a b : Nat) (w : World) : (Builtin.max2 (.int .i64 a) (.int .i64 b)).run Q w = .ok (.int .i64 (max a b : Nat)) w := by
  by_cases hlt : a < b
  · have e : max a b = b := by omega
    simp [Builtin.max2, hlt, e]
  · have e : max a b = a := by omega
    simp [Builtin.max2, hlt, e]
theorem geB_ok {x y : V} {X Y : Value} (h : geB x y = true) (hx : DV c.ν Γ x X) (hy : DV c.ν Γ y Y) : ∃ a b : Nat, X = .int .i64 a ∧ Y = .int .i64 b ∧ a ≤ b := by
  unfold geB at h
  split at h
  · rename_i f g hf hg
    rw [Nat.beq_eq] at h
    subst h
    obtain ⟨_, rfl, z, z1, z2, ez, _, _, h5⟩ := opN_ok hf hx
    obtain ⟨n, n1, n2, n3⟩ := (h5 _).1 (opG_ok hg hy)
    exact ⟨z, n, ez, n3, n1⟩
  · cases h
theorem symMin_ok {x y v : V} {X Y : Value} (hx : DV c.ν Γ x X) (hy : DV c.ν Γ y Y) (h : symMin x y = some v) : ∃ z, DV c.ν Γ v z ∧ ∀ w, (Builtin.min2 X Y).run Q w = .ok z w := by
  unfold symMin at h
  cases h1 : geB x y with
  | true =>
    rw [h1, bi_t] at h
    cases h
    obtain ⟨a, b, rfl, rfl, hab⟩ := geB_ok h1 hx hy
    exact ⟨_, hx, fun w => by rw [min_run, Nat.min_eq_left hab]⟩
  | false =>
  rw [h1, bi_f] at h
  cases h2 : geB y x with
  | true =>
    rw [h2, bi_t] at h
    cases h
    obtain ⟨a, b, rfl, rfl, hab⟩ := geB_ok h2 hy hx
    exact ⟨_, hy, fun w => by rw [min_run, Nat.min_eq_right hab]⟩
  | false =>
  rw [h2, bi_f, ob_eq] at h
  obtain ⟨p, hp, h⟩ := h
  rw [ob_eq] at h
  obtain ⟨q, hq, h⟩ := h
  obtain ⟨a, a1, a2, a3, eX⟩ := asR_ok hp hx
  obtain ⟨b, b1, b2, b3, eY⟩ := asR_ok hq hy
  subst eX eY
  have hl : lim40 = 1099511627776 := rfl
  cases h
  refine ⟨_, ?_, fun w => min_run a b w⟩
  cases h3 : Nat.ble p.2 q.1 with
  | true =>
    rw [Nat.ble_eq] at h3
    rw [bi_t, Nat.min_eq_left (by omega)]
    exact hx
  | false =>
    rw [bi_f]
    cases h4 : Nat.ble q.2 p.1 with
    | true =>
      rw [Nat.ble_eq] at h4
      rw [bi_t, Nat.min_eq_right (by omega)]
      exact hy
    | false =>
      rw [bi_f, lesN_eq, lesN_eq]
      exact mk_rng (by omega) (by omega) (wrap64 (by omega))
theorem symMax_ok {x y v : V} {X Y : Value} (hx : DV c.ν Γ x X) (hy : DV c.ν Γ y Y) (h : symMax x y = some v) : ∃ z, DV c.ν Γ v z ∧ ∀ w, (Builtin.max2 X Y).run Q w = .ok z w := by
  unfold symMax at h
  rw [ob_eq] at h
  obtain ⟨p, hp, h⟩ := h
  rw [ob_eq] at h
  obtain ⟨q, hq, h⟩ := h
  obtain ⟨a, a1, a2, a3, eX⟩ := asR_ok hp hx
  obtain ⟨b, b1, b2, b3, eY⟩ := asR_ok hq hy
  subst eX eY
  have hl : lim40 = 1099511627776 := rfl
  cases h
  refine ⟨_, ?_, fun w => max_run a b w⟩
  cases h3 : Nat.ble q.2 p.1 with
  | true =>
    rw [Nat.ble_eq] at h3
    rw [bi_t, Nat.max_eq_left (by omega)]
    exact hx
  | false =>
    rw [bi_f]
    cases h4 : Nat.ble p.2 q.1 with
    | true =>
      rw [Nat.ble_eq] at h4
      rw [bi_t, Nat.max_eq_right (by omega)]
      exact hy
    | false =>
      rw [bi_f, grtN_eq, grtN_eq]
      exact mk_rng (by omega) (by omega) (wrap64 (by omega))
theorem clsV_ok {a hi n : Nat} (hhi : hi < 256) (h : ClsOK a hi n) : DV c.ν Γ (clsV a hi) (.int .u8 n) := by
  unfold clsV
  unfold ClsOK at h
  cases h1 : Nat.blt a 8 with
  | true =>
    rw [Nat.blt_eq] at h1
    rw [if_pos h1] at h
    subst h
    rw [bi_t]
    exact mk_int (wrap_u8 (by omega))
  | false =>
    have h2 : ¬ a < 8 := fun k => by rw [← Nat.blt_eq, h1] at k; cases k
    rw [if_neg h2] at h
    rw [bi_f]
    exact mk_rng h.1 h.2 (wrap_u8 (by omega))
theorem symRem_ok {x y v : V} {X Y : Value} {t : TypeId} (hx : DV c.ν Γ x X) (hy : DV c.ν Γ y Y) (h : symRem x y = some v) : ∃ z, DV c.ν Γ v z ∧ ∀ w, (binOp .rem t X Y).run Q w = .ok z w := by
  unfold symRem at h
  split at h
  · rename_i i b
    have hY := dv_int hy
    have hX := (dv_opq hx).1
    have run : ∀ (n : Nat), n < 256 → ∀ (d : Nat), d ≠ 0 → d < 256 → ∀ w, (binOp .rem t (.int .u8 n) (.int .u8 (IntKind.u8.wrap d))).run Q w = .ok (.int .u8 ((n % d : Nat) : Int)) w := fun n hn d hd hd2 w => by
      rw [wrap_u8 hd2]
      simp [binOp, Op.intDiv, hd]
      exact Int.tmod_eq_emod_of_nonneg (Int.natCast_nonneg n)
    cases h1 : btw 2000 i 2016 with
    | true =>
      rw [h1, bi_t, bi_eq, Nat.beq_eq] at h
      obtain ⟨rfl, h⟩ := h
      cases h
      rw [btw_iff] at h1
      obtain ⟨n, n1, n2, n3⟩ := c.nu.inp (i - 2000) X (by omega) (by rw [show 2000 + (i - 2000) = i from by omega]; exact hX)
      subst n2 hY
      refine ⟨_, ?_, run n n1 16 (by decide) (by decide)⟩
      rw [n3]
      exact mk_int (wrap_u8 (by show i - 2000 < 256; omega))
    | false =>
      rw [h1, bi_f, bi_eq, bi_eq, Nat.beq_eq] at h
      obtain ⟨h2, rfl, h⟩ := h
      cases h
      rw [btw_iff] at h2
      obtain ⟨n, n1, n2, n3, n4⟩ := c.nu.nam (i - 3000) X (by omega) (by rw [show 3000 + (i - 3000) = i from by omega]; exact hX)
      subst n2 hY
      rw [ndiv, nsub]
      generalize (i - 3000) / 16 = j at n3 ⊢
      exact ⟨_, clsV_ok (by decide) n3, run n n1 9 (by decide) (by decide)⟩
  · cases h
theorem symQuo_ok {x y v : V} {X Y : Value} {t : TypeId} (hx : DV c.ν Γ x X) (hy : DV c.ν Γ y Y) (h : symQuo x y = some v) : ∃ z, DV c.ν Γ v z ∧ ∀ w, (binOp .quo t X Y).run Q w = .ok z w := by
  unfold symQuo at h
  split at h
  · rename_i i b
    have hY := dv_int hy
    have hX := (dv_opq hx).1
    have run : ∀ (n : Nat), n < 256 → ∀ (d : Nat), d ≠ 0 → d < 256 → ∀ w, (binOp .quo t (.int .u8 n) (.int .u8 (IntKind.u8.wrap d))).run Q w = .ok (.int .u8 ((n / d : Nat) : Int)) w := fun n hn d hd hd2 w => by
      rw [wrap_u8 hd2]
      have e : IntKind.u8.wrap ((n / d : Nat) : Int) = ((n / d : Nat) : Int) := wrap_u8 (Nat.lt_of_le_of_lt (Nat.div_le_self n d) hn)
      have e2 : Int.tdiv (n : Int) (d : Int) = ((n / d : Nat) : Int) := rfl
      have e3 : ((n / d : Nat) : Int) = (n : Int) / (d : Int) := Int.natCast_ediv n d
      rw [e3] at e e2
      simp [binOp, Op.intDiv, hd, e2, e]
    cases h1 : btw 3000 i 3256 with
    | true =>
      rw [h1, bi_t, bi_eq, Nat.beq_eq] at h
      obtain ⟨rfl, h⟩ := h
      rw [nmod, nsub] at h
      obtain rfl := Option.some.inj h
      rw [btw_iff] at h1
      obtain ⟨n, n1, n2, n3, n4⟩ := c.nu.nam (i - 3000) X (by omega) (by rw [show 3000 + (i - 3000) = i from by omega]; exact hX)
      subst n2 hY
      generalize (i - 3000) % 16 = j at n4 ⊢
      exact ⟨_, clsV_ok (by decide) n4, run n n1 9 (by decide) (by decide)⟩
    | false =>
      rw [h1, bi_f, bi_eq, bi_eq, Nat.beq_eq] at h
      obtain ⟨h2, rfl, h⟩ := h
      rw [nmod, nsub, nadd] at h
      obtain rfl := Option.some.inj h
      rw [btw_iff] at h2
      obtain ⟨n, n1, n2, n3, n4⟩ := c.nu.byt (i - 4000) X (by omega) (by rw [show 4000 + (i - 4000) = i from by omega]; exact hX)
      subst n2 hY
      exact ⟨_, mk_opq n4 rfl, run n n1 2 (by decide) (by decide)⟩
  · cases h
theorem symBin_ok {op : BinOp} {x y v : V} {X Y : Value} {t : TypeId} (hx : DV c.ν Γ x X) (hy : DV c.ν Γ y Y) (h : symBin op x y = some v) : ∃ z, DV c.ν Γ v z ∧ ∀ w, (binOp op t X Y).run Q w = .ok z w := by
  cases op <;> first | (cases h; done) | skip
  · exact symAdd_ok hx hy h
  · exact symQuo_ok hx hy h
  · exact symRem_ok hx hy h
/-- What they are handed is a number. -/
theorem symBin_nil {i : Nat} {y v : V} {op : BinOp} (hy : DV c.ν Γ y .nilIface) (h : symBin op (.opq i) y = some v ∨ symBin op y (.opq i) = some v) : False := by
  have add_ : ∀ {p : Nat × Nat}, asR y = some p → False := fun hp => by
    obtain ⟨n, _, _, _, e⟩ := asR_ok hp hy
    cases e
  have two : ∀ {i b : Nat} {k : IntKind}, (y = .opq i → False) → (y = .int k b → False) := fun _ h => by
    rw [h, DV] at hy
    cases hy
  cases op <;> first | (rcases h with h | h <;> cases h; done) | skip
  · rcases h with h | h
    · have h' : symAdd (.opq i) y = some v := h
      unfold symAdd at h'
      rw [ob_eq] at h'
      obtain ⟨p, hp, h'⟩ := h'
      rw [ob_eq] at h'
      obtain ⟨q, hq, h'⟩ := h'
      exact add_ hq
    · have h' : symAdd y (.opq i) = some v := h
      unfold symAdd at h'
      rw [ob_eq] at h'
      obtain ⟨p, hp, h'⟩ := h'
      exact add_ hp
  · rcases h with h | h
    · have h' : symQuo (.opq i) y = some v := h
      unfold symQuo at h'
      split at h'
      · rw [DV] at hy; cases hy
      · cases h'
    · have h' : symQuo y (.opq i) = some v := h
      unfold symQuo at h'
      split at h'
      · rename_i he; cases he
      · cases h'
  · rcases h with h | h
    · have h' : symRem (.opq i) y = some v := h
      unfold symRem at h'
      split at h'
      · rw [DV] at hy; cases hy
      · cases h'
    · have h' : symRem y (.opq i) = some v := h
      unfold symRem at h'
      split at h'
      · rename_i he; cases he
      · cases h'
theorem bytV_ok {a n : Nat} (hn : n < 256) (h : BytOK c.ν a n) : DV c.ν Γ (bytV a) (.int .i64 n) := by
  unfold bytV
  cases h1 : Nat.beq a 0 with
  | true =>
    rw [Nat.beq_eq] at h1
    rw [bi_t]
    exact mk_opq (h.1 h1) rfl
  | false =>
    rw [bi_f]
    cases h2 : Nat.beq a 1 with
    | true =>
      rw [Nat.beq_eq] at h2
      rw [bi_t]
      exact mk_opq (h.2.1 h2) rfl
    | false =>
      rw [bi_f]
      cases h3 : Nat.beq a 2 with
      | true =>
        rw [Nat.beq_eq] at h3
        rw [bi_t]
        exact mk_rng (h.2.2 h3) (by omega) (wrap64 (by omega))
      | false =>
        rw [bi_f]
        exact mk_rng (Nat.zero_le _) (by omega) (wrap64 (by omega))
theorem symConv_ok {k : IntKind} {i : Nat} {v : V} {X : Value} (hx : DV c.ν Γ (.opq i) X) (h : symConv k i = some v) : ∃ n : Nat, n < 256 ∧ k = .i64 ∧ X = .int .u8 n ∧ DV c.ν Γ v (.int .i64 n) := by
  unfold symConv at h
  rw [bi_eq] at h
  obtain ⟨hk, h⟩ := h
  have hk : k = .i64 := kn_inj (q := .i64) hk
  have hX := (dv_opq hx).1
  cases h1 : btw 4000 i 4016 with
  | true =>
    rw [h1, bi_t] at h
    rw [ndiv, nsub] at h
    obtain rfl := Option.some.inj h
    rw [btw_iff] at h1
    obtain ⟨n, n1, n2, n3, n4⟩ := c.nu.byt (i - 4000) X (by omega) (by rw [show 4000 + (i - 4000) = i from by omega]; exact hX)
    generalize (i - 4000) / 4 = j at n3 ⊢
    exact ⟨n, n1, hk, n2, bytV_ok n1 n3⟩
  | false =>
    rw [h1, bi_f, bi_eq] at h
    obtain ⟨h2, h⟩ := h
    rw [nsub] at h
    obtain rfl := Option.some.inj h
    rw [btw_iff] at h2
    obtain ⟨n, n1, n2, n3⟩ := c.nu.hlf (i - 5000) X (by omega) (by rw [show 5000 + (i - 5000) = i from by omega]; exact hX)
    generalize i - 5000 = j at n3 ⊢
    exact ⟨n, n1, hk, n2, bytV_ok n1 n3⟩
/-- There are such names. -/
def nuOf (z0 z1 z2 : Nat) (μ : Nat → Value → Prop) (i : Nat) (x : Value) : Prop :=
  (i = 100 ∧ x = .int .i64 z0) ∨ (i = 101 ∧ x = .int .i64 z1) ∨ (i = 102 ∧ x = .int .i64 z2) ∨ (i = 110 ∧ SlZ z0 x) ∨ (i = 111 ∧ SlZ z1 x) ∨ (i = 112 ∧ SlZ z2 x) ∨ (i = 120 ∧ GeZ z0 x) ∨ (i = 121 ∧ GeZ z1 x) ∨ (i = 122 ∧ GeZ z2 x) ∨ (¬ (100 ≤ i ∧ i < 123) ∧ μ i x)
theorem nuOf_ok {z0 z1 z2 : Nat} {μ : Nat → Value → Prop} (h0 : z0 ≤ 60) (h1 : z1 ≤ 26) (h2 : 26 ≤ z2) (h3 : z2 ≤ 60)
    (inp : ∀ s x, s < 16 → μ (2000 + s) x → ∃ n : Nat, n < 256 ∧ x = .int .u8 n ∧ n % 16 = s)
    (nam : ∀ a x, a < 256 → μ (3000 + a) x → ∃ n : Nat, n < 256 ∧ x = .int .u8 n ∧ ClsOK (a / 16) 8 (n % 9) ∧ ClsOK (a % 16) 28 (n / 9))
    (byt : ∀ a x, a < 16 → μ (4000 + a) x → ∃ n : Nat, n < 256 ∧ x = .int .u8 n ∧ ((a / 4 = 0 → n = z1) ∧ (a / 4 = 1 → n = z2) ∧ (a / 4 = 2 → 60 ≤ n)) ∧ μ (5000 + a % 4) (.int .u8 (n / 2 : Nat)))
    (hlf : ∀ a x, a < 4 → μ (5000 + a) x → ∃ n : Nat, n < 256 ∧ x = .int .u8 n ∧ ((a = 0 → n = z1) ∧ (a = 1 → n = z2) ∧ (a = 2 → 60 ≤ n))) : NuOK (nuOf z0 z1 z2 μ) := by
  have far : ∀ i x, 123 ≤ i → (nuOf z0 z1 z2 μ i x ↔ μ i x) := fun i x hi => by
    unfold nuOf
    constructor
    · rintro (h | h | h | h | h | h | h | h | h | h)
      all_goals first | exact h.2 | (exfalso; omega)
    · intro h
      iterate 9 right
      exact ⟨by omega, h⟩
  refine ⟨fun f hf => ?_, fun s x hs h => inp s x hs ((far _ _ (by omega)).1 h), fun a x ha h => nam a x ha ((far _ _ (by omega)).1 h), fun a x ha h => ?_, fun a x ha h => ?_⟩
  · have : f = 0 ∨ f = 1 ∨ f = 2 := by omega
    rcases this with rfl | rfl | rfl
    · refine ⟨z0, Nat.zero_le _, h0, fun x => ?_, fun x => ?_, fun x => ?_⟩ <;> unfold nuOf <;> constructor <;> intro h <;> simp_all
    · refine ⟨z1, Nat.zero_le _, h1, fun x => ?_, fun x => ?_, fun x => ?_⟩ <;> unfold nuOf <;> constructor <;> intro h <;> simp_all
    · refine ⟨z2, h2, h3, fun x => ?_, fun x => ?_, fun x => ?_⟩ <;> unfold nuOf <;> constructor <;> intro h <;> simp_all
  · obtain ⟨n, n1, n2, n3, n4⟩ := byt a x ha ((far _ _ (by omega)).1 h)
    refine ⟨n, n1, n2, ⟨fun k => ?_, fun k => ?_, n3.2.2⟩, (far _ _ (by omega)).2 n4⟩
    · rw [n3.1 k]; exact .inr (.inl ⟨rfl, rfl⟩)
    · rw [n3.2.1 k]; exact .inr (.inr (.inl ⟨rfl, rfl⟩))
  · obtain ⟨n, n1, n2, n3⟩ := hlf a x ha ((far _ _ (by omega)).1 h)
    refine ⟨n, n1, n2, ⟨fun k => ?_, fun k => ?_, n3.2.2⟩⟩
    · rw [n3.1 k]; exact .inr (.inl ⟨rfl, rfl⟩)
    · rw [n3.2.1 k]; exact .inr (.inr (.inl ⟨rfl, rfl⟩))
/-- Nothing else has a name. -/
theorem nu0 : NuOK (nuOf 0 0 26 fun _ _ => False) := nuOf_ok (by decide) (by decide) (by decide) (by decide) (fun _ _ _ h => h.elim) (fun _ _ _ h => h.elim) (fun _ _ _ h => h.elim) (fun _ _ _ h => h.elim)
end Go.Proofs.YtiekoeapmhhjbaaGreatDoor.X
/- The interpreter is sound, part F: texts; comparisons; one operand. -/
namespace Go.Proofs.YtiekoeapmhhjbaaGreatDoor.X
open Go
set_option linter.unusedVariables false
set_option linter.unusedSimpArgs false
variable {c : Ctx} {Γ Γ' : Gm} {m m' : M} {w w' : World} {ρ : Operand → Value} {e : En}
theorem lenN_eq (l : List Nat) : lenN l = l.length := by
  induction l with
  | nil => rfl
  | cons x r ih => exact congrArg (· + 1) ih
theorem strB_size (s : List Nat) : (strB s).size = s.length := by simp [strB, ByteArray.size]
theorem strB_toList (s : List Nat) : (strB s).toList = s.map UInt8.ofNat := by rw [ByteArray.toList_eq]; simp [strB]
theorem strB_append (a b : List Nat) : strB (a ++ b) = strB a ++ strB b := by
  apply ByteArray.ext
  simp [strB, ByteArray.data_append]
theorem u8_eq {x y : Nat} : (UInt8.ofNat x = UInt8.ofNat y) ↔ x % 256 = y % 256 := by
  rw [← UInt8.toNat_inj, UInt8.toNat_ofNat', UInt8.toNat_ofNat']
theorem u8_lt {x y : Nat} : (UInt8.ofNat x < UInt8.ofNat y) ↔ x % 256 < y % 256 := by
  rw [UInt8.lt_iff_toNat_lt, UInt8.toNat_ofNat', UInt8.toNat_ofNat']
theorem eqL_iff : ∀ {a b : List Nat}, eqL a b = true ↔ a.map UInt8.ofNat = b.map UInt8.ofNat
  | [], [] => by simp [eqL, lrec]
  | [], y :: r => by simp [eqL, lrec]
  | x :: s, [] => by simp [eqL, lrec]
  | x :: s, y :: r => by
    have h : eqL (x :: s) (y :: r) = bi (Nat.beq (x % 256) (y % 256)) (eqL s r) false := rfl
    rw [h, List.map_cons, List.map_cons, List.cons.injEq, u8_eq, ← eqL_iff (a := s) (b := r)]
    cases hq : Nat.beq (x % 256) (y % 256) with
    | true => rw [Nat.beq_eq] at hq; simp [bi_t, hq]
    | false =>
      have : x % 256 ≠ y % 256 := fun he => by rw [he, Nat.beq_refl] at hq; cases hq
      simp [bi_f, this]
theorem ltL_iff : ∀ {a b : List Nat}, ltL a b = Op.bytesLess (a.map UInt8.ofNat) (b.map UInt8.ofNat)
  | [], [] => rfl
  | [], y :: r => rfl
  | x :: s, [] => rfl
  | x :: s, y :: r => by
    have h : ltL (x :: s) (y :: r) = bi (Nat.beq (x % 256) (y % 256)) (ltL s r) (Nat.blt (x % 256) (y % 256)) := rfl
    rw [h, List.map_cons, List.map_cons, ltL_iff (a := s) (b := r)]
    simp only [Op.bytesLess]
    cases hq : Nat.beq (x % 256) (y % 256) with
    | true =>
      rw [Nat.beq_eq] at hq
      have h1 : UInt8.ofNat x = UInt8.ofNat y := u8_eq.2 hq
      rw [bi_t, h1]
      simp
    | false =>
      have hne : x % 256 ≠ y % 256 := fun he => by rw [he, Nat.beq_refl] at hq; cases hq
      have h1 : ¬ UInt8.ofNat x = UInt8.ofNat y := fun he => hne (u8_eq.1 he)
      rw [bi_f, Bool.eq_iff_iff, Nat.blt_eq]
      simp [h1, u8_lt]
theorem bytesLess_asymm : ∀ {a b : List UInt8}, Op.bytesLess b a = (!(Op.bytesLess a b || decide (a = b)))
  | [], [] => rfl
  | [], y :: r => by simp [Op.bytesLess]
  | x :: s, [] => by simp [Op.bytesLess]
  | x :: s, y :: r => by
    simp only [Op.bytesLess]
    rw [bytesLess_asymm (a := s) (b := r)]
    by_cases hxy : x = y
    · subst hxy; simp
    · have hyx : ¬ y = x := fun h => hxy h.symm
      have h3 : (y < x) ↔ ¬ (x < y) := by
        rw [UInt8.lt_iff_toNat_lt, UInt8.lt_iff_toNat_lt]
        have : x.toNat ≠ y.toNat := fun h => hxy (UInt8.toNat_inj.1 h)
        omega
      have e1 : (x == y) = false := by rw [beq_eq_false_iff_ne]; exact hxy
      have e2 : (y == x) = false := by rw [beq_eq_false_iff_ne]; exact hyx
      have e3 : decide (x :: s = y :: r) = false := decide_eq_false (fun h => hxy (by cases h; rfl))
      rw [e1, e2, e3]
      by_cases hlt : x < y
      · rw [decide_eq_true hlt, decide_eq_false (fun h => h3.1 h hlt)]; rfl
      · rw [decide_eq_false hlt, decide_eq_true (h3.2 hlt)]; rfl
theorem strOp_ok {Q : Program} {op : BinOp} {a b : List Nat} {v : V} {t : TypeId} (h : strOp op a b = some v) : ∃ x, DV c.ν Γ v x ∧ ∀ w, (binOp op t (.string (strB a)) (.string (strB b))).run Q w = .ok x w := by
  have heq : ((strB a).toList == (strB b).toList) = eqL a b := by
    rw [Bool.eq_iff_iff, beq_iff_eq, strB_toList, strB_toList, eqL_iff]
  have hlt : Op.bytesLess (strB a).toList (strB b).toList = ltL a b := by rw [strB_toList, strB_toList, ltL_iff]
  have hgt : (ltL a b || eqL a b) = notB (ltL b a) := by
    rw [notB_eq, ltL_iff, ltL_iff, bytesLess_asymm (a := a.map UInt8.ofNat) (b := b.map UInt8.ofNat)]
    have : eqL a b = decide (a.map UInt8.ofNat = b.map UInt8.ofNat) := by rw [Bool.eq_iff_iff, eqL_iff, decide_eq_true_iff]
    rw [this]
    simp
  cases op <;> first | (cases h; done) | skip
  · have h' : bi (Nat.ble (lenN a + lenN b) 1000000) (some (V.str (lapp a b))) none = some v := h
    rw [bi_eq] at h'
    obtain ⟨h1, h2⟩ := h'
    cases h2
    rw [Nat.ble_eq, lenN_eq, lenN_eq] at h1
    refine ⟨_, mk_str rfl, fun w => ?_⟩
    rw [lapp_eq, strB_append]
    have : ¬ (((strB a).size + (strB b).size : Nat) : Int) > IntKind.i64.max := by
      rw [strB_size, strB_size]
      have : IntKind.i64.max = 9223372036854775807 := rfl
      omega
    simp only [binOp, Op.stringOp, if_neg this]
    rfl
  all_goals
    cases h
    refine ⟨_, mk_bool, fun w => ?_⟩
    simp only [binOp, Op.stringOp, heq, hlt, hgt, notB_eq, Bool.not_not]
    rfl
theorem eqOp_ok {op : BinOp} {b : Bool} {v : V} (h : eqOp op b = some v) : (op = .eql ∧ v = .bool b) ∨ (op = .neq ∧ v = .bool (!b)) := by
  cases op <;> first | (cases h; done) | skip
  · cases h; exact .inl ⟨rfl, rfl⟩
  · cases h; exact .inr ⟨rfl, by rw [notB_eq]⟩
/-- A comparison that the model reckons by types. -/
theorem eql_of_equal {op : BinOp} {b : Bool} {v : V} {t : TypeId} {x y : Value} {P' : Program} (h : eqOp op b = some v) (hs : ∀ w, (Op.equal t x y).run P' w = .ok b w)
    (hx : ∀ w, (binOp .eql t x y).run P' w = ((Op.equal t x y).run P' w).andThen fun b w' => .ok (.bool b) w') (hy : ∀ w, (binOp .neq t x y).run P' w = ((Op.equal t x y).run P' w).andThen fun b w' => .ok (.bool (!b)) w') :
    ∃ z, DV c.ν Γ v z ∧ ∀ w, (binOp op t x y).run P' w = .ok z w := by
  rcases eqOp_ok h with ⟨rfl, rfl⟩ | ⟨rfl, rfl⟩
  · exact ⟨_, mk_bool, fun w => by rw [hx, hs]; rfl⟩
  · exact ⟨_, mk_bool, fun w => by rw [hy, hs]; rfl⟩
theorem kdT_of {Q : Program} {t : TypeId} {k : Kd} (h : kdT Q t = k) (hk : k ≠ .other) : match k with
    | .other => False
    | .bool => Q.underlying t = some .bool
    | .ptr => ∃ e, Q.underlying t = some (.pointer e)
    | .slice => ∃ e, Q.underlying t = some (.slice e)
    | .map => ∃ a b, Q.underlying t = some (.map a b)
    | .func => ∃ a b d, Q.underlying t = some (.func a b d)
    | .iface => ∃ ms, Q.underlying t = some (.interface ms)
    | .strct l => ∃ fs, Q.underlying t = some (.struct fs) ∧ memT t eqTs = true ∧ fldsF Q 3 t 0 = some l := by
  unfold kdT at h
  cases hu : Q.underlying t with
  | none => rw [hu] at h; exact absurd h.symm hk
  | some u =>
    rw [hu] at h
    cases u with
    | struct fs =>
      have h1 : bi (memT t eqTs) (Option.rec Kd.other (fun l => Kd.strct l) (fldsF Q 3 t 0)) .other = k := h
      cases hm : memT t eqTs with
      | false => rw [hm, bi_f] at h1; exact absurd h1.symm hk
      | true =>
        rw [hm, bi_t] at h1
        cases hf : fldsF Q 3 t 0 with
        | none => rw [hf] at h1; exact absurd h1.symm hk
        | some l => rw [hf] at h1; cases h1; exact ⟨fs, rfl, rfl, rfl⟩
    | bool => cases h; rfl
    | pointer e => cases h; exact ⟨e, rfl⟩
    | slice e => cases h; exact ⟨e, rfl⟩
    | map a b => cases h; exact ⟨a, b, rfl⟩
    | func a b d => cases h; exact ⟨a, b, d, rfl⟩
    | interface ms => cases h; exact ⟨ms, rfl⟩
    | _ => exact absurd h.symm hk
end Go.Proofs.YtiekoeapmhhjbaaGreatDoor.X
/- The interpreter is sound, part G: comparisons by types; operations with two operands. -/
namespace Go.Proofs.YtiekoeapmhhjbaaGreatDoor.X
open Go
set_option linter.unusedVariables false
set_option linter.unusedSimpArgs false
variable {c : Ctx} {Γ Γ' : Gm} {m m' : M} {w w' : World} {ρ : Operand → Value} {e : En} {Q : Program}
/-- A type that may be compared field by field. -/
def StOK (Q : Program) : Nat → TypeId → Prop
  | 0, _ => False
  | n + 1, t => match Q.underlying t with
    | some (.struct fs) => Q.stoodInHeld t = false ∧ ∀ f ∈ fs.toList, f.name ≠ "_" ∧ StOK Q n f.type
    | _ => (Q.info? t).map (·.size) = some 1
def isSt : Option TypeDesc → Bool
  | some (.struct _) => true
  | _ => false
/-- A part of an aggregate, as a value. -/
def valA (Q : Program) (t : TypeId) (X : Array Value) (b : Nat) : Value := if isSt (Q.underlying t) then .agg (X.extract b (b + szI Q t)) else X.getD b undef
def ct (x r : Option Bool) : Option Bool := match x with
  | some true => r
  | x => x
theorem ct_bi (b : Bool) (x y r : Option Bool) : ct (bi b x y) r = bi b (ct x r) (ct y r) := by cases b <;> rfl
theorem ct_none (r : Option Bool) : ct none r = none := rfl
theorem ct_false (r : Option Bool) : ct (some false) r = some false := rfl
/-- One place. -/
noncomputable def eq1 (p : Nat × Nat) (xs ys : List V) (r : Option Bool) : Option Bool := ob (headO (dropL p.1 xs)) fun x => ob (headO (dropL p.1 ys)) fun y => match p.2, x, y with
  | 0, .int k a, .int q' b => bi (Nat.beq (kn k) (kn q')) (bi (eqI k a b) r (some false)) none
  | 1, .str a, .str b => bi (eqL a b) r (some false)
  | 2, .bool a, .bool b => bi (eqBo a b) r (some false)
  | _, _, _ => none
theorem eqA_cons (p : Nat × Nat) (l : List (Nat × Nat)) (xs ys : List V) : eqA (p :: l) xs ys = eq1 p xs ys (eqA l xs ys) := rfl
theorem eq1_ct (p : Nat × Nat) (xs ys : List V) (q r : Option Bool) : eq1 p xs ys (ct q r) = ct (eq1 p xs ys q) r := by
  unfold eq1
  cases headO (dropL p.1 xs) with
  | none => rfl
  | some x =>
    rw [ob_some, ob_some]
    cases headO (dropL p.1 ys) with
    | none => rfl
    | some y =>
      rw [ob_some, ob_some]
      split <;> simp only [ct_bi, ct_none, ct_false]
theorem eqA_append (l r : List (Nat × Nat)) (xs ys : List V) : eqA (l ++ r) xs ys = ct (eqA l xs ys) (eqA r xs ys) := by
  induction l with
  | nil => rfl
  | cons p l ih => rw [List.cons_append, eqA_cons, eqA_cons, ih, eq1_ct]
theorem info_size {t : TypeId} {n : Nat} (h : (Q.info? t).map (·.size) = some n) : szI Q t = n := by
  obtain ⟨i, h1, h2⟩ := Option.map_eq_some_iff.1 h
  unfold szI
  rw [h1]
  exact h2
theorem run_isAgg {t : TypeId} {u : TypeDesc} (h : Q.underlying t = some u) (w : World) : (isAgg t).run Q w = .ok (Sx.aggB u) w := Sx.run_isAgg h w
/-- Places of a struct at b are places behind b. -/
theorem run_part (t : TypeId) (X : Array Value) (o : Nat) (u : TypeDesc) (hu : Q.underlying t = some u) (hu2 : ∀ n e, u ≠ .array n e) (hz : ∃ z, (Q.info? t).map (·.size) = some z) (ho : isSt (some u) = false → o < X.size) (w : World) :
    (Go.part t X o).run Q w = .ok (valA Q t X o) w := by
  obtain ⟨z, hz⟩ := hz
  unfold Go.part
  rw [Sem.run_bind, run_isAgg hu]
  simp only [Result.andThen_ok]
  unfold valA
  rw [hu]
  cases u with
  | struct fs =>
    simp only [Sx.aggB, isSt, if_true, Sem.run_bind, Sx.run_sizeOf hz, Result.andThen_ok, info_size hz]
    rfl
  | array n e => exact absurd rfl (hu2 n e)
  | _ =>
    have h := ho rfl
    simp only [Sx.aggB, isSt, Bool.false_eq_true, if_false]
    rw [Array.getD_eq_getD_getElem?, Array.getElem?_eq_getElem h]
    rfl
theorem info_of_und {t : TypeId} {u : TypeDesc} (h : Q.underlying t = some u) : ∃ z, (Q.info? t).map (·.size) = some z := by
  unfold Program.underlying at h
  cases hi : Q.info? t with
  | none => rw [hi] at h; cases h
  | some i => exact ⟨_, rfl⟩
theorem getD_of {A : Array Value} {o : Nat} {X : Value} (h : A[o]? = some X) : A.getD o undef = X := by rw [Array.getD_eq_getD_getElem?, h]; rfl
/-- Types that are compared, at a place: the model's answer. -/
theorem eqTy : ∀ (n : Nat) (t : TypeId) (b : Nat) (l : List (Nat × Nat)), fldsF Q n t b = some l → StOK Q n t → ∀ (xs ys : List V) (Xs Ys : List Value), DVL c.ν Γ xs Xs → DVL c.ν Γ ys Ys → ∀ (A B : Array Value) (o : Nat),
    (∀ i, i < szI Q t → A[o + i]? = Xs[b + i]?) → (∀ i, i < szI Q t → B[o + i]? = Ys[b + i]?) → ∀ r, eqA l xs ys = some r → ∀ (d : Nat) (w : World),
      (Op.equalIn (d + n) t (valA Q t A o) (valA Q t B o)).run Q w = .ok r w ∧ ∃ u, Q.underlying t = some u ∧ (∀ n e, u ≠ .array n e) ∧ (isSt (some u) = false → o < A.size ∧ o < B.size) := by
  intro n
  induction n with
  | zero => intro t b l h; cases h
  | succ n ih =>
    intro t b l h hst xs ys Xs Ys hxs hys A B o hA hB r hr d w
    have hdef : fldsF Q (n + 1) t b = match Q.underlying t with
      | some (.int _) => some [(b, 0)]
      | some .string => some [(b, 1)]
      | some .bool => some [(b, 2)]
      | some (.struct fs) => lrec (some []) (fun (f : Field) _ r => bi (Nat.ble (f.offset + szI Q f.type) (szI Q t)) (ob (fldsF Q n f.type (b + f.offset)) fun x => ob r fun y => some (lapp x y)) none) fs.toList
      | _ => none := rfl
    rw [hdef] at h
    -- one cell
    have one_ : ∀ k, l = [(b, k)] → szI Q t = 1 → ∃ x y X Y, (xs.drop b).head? = some x ∧ (ys.drop b).head? = some y ∧ A[o]? = some X ∧ B[o]? = some Y ∧ DV c.ν Γ x X ∧ DV c.ν Γ y Y ∧ eq1 (b, k) xs ys (some true) = some r := by
      intro k hl hz
      subst hl
      have hr' : eq1 (b, k) xs ys (some true) = some r := hr
      have hr2 := hr'
      unfold eq1 at hr2
      rw [ob_eq] at hr2
      obtain ⟨x, hx, hr2⟩ := hr2
      rw [ob_eq] at hr2
      obtain ⟨y, hy, hr2⟩ := hr2
      rw [headO_eq, dropL_eq] at hx hy
      obtain ⟨X, hX, hvX⟩ := (hxs.drop b).head hx
      obtain ⟨Y, hY, hvY⟩ := (hys.drop b).head hy
      have h0 : 0 < szI Q t := by omega
      have a1 := hA 0 h0
      have a2 := hB 0 h0
      rw [Nat.add_zero, Nat.add_zero] at a1 a2
      rw [List.head?_drop] at hX hY
      exact ⟨x, y, X, Y, hx, hy, a1.trans hX, a2.trans hY, hvX, hvY, hr'⟩
    have lt_ : ∀ {X : Array Value} {v : Value}, X[o]? = some v → o < X.size := fun h => (Array.getElem?_eq_some_iff.1 h).1
    cases hu : Q.underlying t with
    | none => rw [hu] at h; cases h
    | some u =>
      rw [hu] at h
      have hst' := hst
      unfold StOK at hst'
      rw [hu] at hst'
      cases u with
      | int q =>
        cases h
        obtain ⟨x, y, X, Y, hx, hy, hX, hY, hvX, hvY, hr'⟩ := one_ 0 rfl (info_size hst')
        refine ⟨?_, _, rfl, fun _ _ h => (by cases h), fun _ => ⟨lt_ hX, lt_ hY⟩⟩
        unfold eq1 at hr'
        rw [headO_eq, headO_eq, dropL_eq, dropL_eq, hx, hy, ob_some, ob_some] at hr'
        cases x <;> first | (cases hr'; done) | skip
        cases y <;> first | (cases hr'; done) | skip
        rename_i k a q' b'
        have h2 : bi (Nat.beq (kn k) (kn q')) (bi (eqI k a b') (some true) (some false)) none = some r := hr'
        rw [bi_eq] at h2
        obtain ⟨h3, h4⟩ := h2
        have := kn_inj h3
        subst this
        rw [dv_int hvX] at hX
        rw [dv_int hvY] at hY
        unfold valA
        rw [hu]
        simp only [isSt, Bool.false_eq_true, if_false]
        rw [getD_of hX, getD_of hY, ← Nat.add_assoc, run_equalIn_int w (d + n) t k q _ _ hu, ← eqI_iff]
        cases hq : eqI k a b' <;> rw [hq] at h4 <;> cases h4 <;> rfl
      | string =>
        cases h
        obtain ⟨x, y, X, Y, hx, hy, hX, hY, hvX, hvY, hr'⟩ := one_ 1 rfl (info_size hst')
        refine ⟨?_, _, rfl, fun _ _ h => (by cases h), fun _ => ⟨lt_ hX, lt_ hY⟩⟩
        unfold eq1 at hr'
        rw [headO_eq, headO_eq, dropL_eq, dropL_eq, hx, hy, ob_some, ob_some] at hr'
        cases x <;> first | (cases hr'; done) | skip
        cases y <;> first | (cases hr'; done) | skip
        rename_i a b'
        have h2 : bi (eqL a b') (some true) (some false) = some r := hr'
        rw [dv_str hvX] at hX
        rw [dv_str hvY] at hY
        unfold valA
        rw [hu]
        simp only [isSt, Bool.false_eq_true, if_false]
        have heq : ((strB a).toList == (strB b').toList) = eqL a b' := by
          rw [Bool.eq_iff_iff, beq_iff_eq, strB_toList, strB_toList, eqL_iff]
        rw [getD_of hX, getD_of hY, ← Nat.add_assoc, run_equalIn_string w (d + n) t _ _ hu, heq]
        cases hq : eqL a b' <;> rw [hq] at h2 <;> cases h2 <;> rfl
      | bool =>
        cases h
        obtain ⟨x, y, X, Y, hx, hy, hX, hY, hvX, hvY, hr'⟩ := one_ 2 rfl (info_size hst')
        refine ⟨?_, _, rfl, fun _ _ h => (by cases h), fun _ => ⟨lt_ hX, lt_ hY⟩⟩
        unfold eq1 at hr'
        rw [headO_eq, headO_eq, dropL_eq, dropL_eq, hx, hy, ob_some, ob_some] at hr'
        cases x <;> first | (cases hr'; done) | skip
        cases y <;> first | (cases hr'; done) | skip
        rename_i a b'
        have h2 : bi (eqBo a b') (some true) (some false) = some r := hr'
        rw [dv_bool hvX] at hX
        rw [dv_bool hvY] at hY
        unfold valA
        rw [hu]
        simp only [isSt, Bool.false_eq_true, if_false]
        rw [getD_of hX, getD_of hY, ← Nat.add_assoc, run_equalIn_bool' w (d + n) t _ _ hu, ← eqBo_eq]
        cases hq : eqBo a b' <;> rw [hq] at h2 <;> cases h2 <;> rfl
      | struct fs =>
        refine ⟨?_, _, rfl, fun _ _ h => (by cases h), fun h => (by cases h)⟩
        have hfo : Q.fieldsOf t = fs := by simp [Program.fieldsOf, hu]
        have hv : ∀ X : Array Value, valA Q t X o = .agg (X.extract o (o + szI Q t)) := fun X => by unfold valA; rw [hu]; rfl
        rw [hv, hv, ← Nat.add_assoc, run_equalIn_struct w (d + n) t _ _ (by rw [hfo]; exact hu) hst'.1, hfo]
        have hA' : ∀ i, i < szI Q t → (A.extract o (o + szI Q t))[i]? = Xs[b + i]? := fun i hi => by
          rw [← hA i hi, Array.getElem?_extract]
          split
          · rfl
          · rw [Array.getElem?_eq_none]; omega
        have hB' : ∀ i, i < szI Q t → (B.extract o (o + szI Q t))[i]? = Ys[b + i]? := fun i hi => by
          rw [← hB i hi, Array.getElem?_extract]
          split
          · rfl
          · rw [Array.getElem?_eq_none]; omega
        generalize A.extract o (o + szI Q t) = A' at hA' ⊢
        generalize B.extract o (o + szI Q t) = B' at hB' ⊢
        have hfs := hst'.2
        have h' : lrec (some []) (fun (f : Field) _ r => bi (Nat.ble (f.offset + szI Q f.type) (szI Q t)) (ob (fldsF Q n f.type (b + f.offset)) fun x => ob r fun y => some (lapp x y)) none) fs.toList = some l := h
        clear h hA hB hu hdef one_ lt_ hst hst' hfo hv
        generalize fs.toList = L at hfs h'
        clear fs
        induction L generalizing l r with
        | nil =>
          cases h'
          cases hr
          simp [Op.eqFields]
        | cons f L ihL =>
          have h2 : bi (Nat.ble (f.offset + szI Q f.type) (szI Q t)) (ob (fldsF Q n f.type (b + f.offset)) fun x => ob (lrec (some []) (fun (f : Field) _ r => bi (Nat.ble (f.offset + szI Q f.type) (szI Q t)) (ob (fldsF Q n f.type (b + f.offset)) fun x => ob r fun y => some (lapp x y)) none) L) fun y => some (lapp x y)) none = some l := h'
          rw [bi_eq, ob_eq] at h2
          obtain ⟨hle, lx, hlx, h2⟩ := h2
          rw [ob_eq] at h2
          obtain ⟨ly, hly, h2⟩ := h2
          cases h2
          rw [lapp_eq, eqA_append] at hr
          rw [Nat.ble_eq] at hle
          have hf := hfs f (List.mem_cons_self ..)
          have hrx : ∃ rx, eqA lx xs ys = some rx ∧ (rx = true ∧ eqA ly xs ys = some r ∨ rx = false ∧ r = false) := by
            cases hq : eqA lx xs ys with
            | none => rw [hq] at hr; cases hr
            | some rx =>
              rw [hq] at hr
              cases rx with
              | true => exact ⟨true, rfl, .inl ⟨rfl, hr⟩⟩
              | false => cases hr; exact ⟨false, rfl, .inr ⟨rfl, rfl⟩⟩
          obtain ⟨rx, hrx, hcase⟩ := hrx
          obtain ⟨hrun, u, hu, hna, hsz⟩ := ih f.type (b + f.offset) lx hlx hf.2 xs ys Xs Ys hxs hys A' B' f.offset (fun i hi => by rw [hA' _ (by omega)]; congr 1; omega) (fun i hi => by rw [hB' _ (by omega)]; congr 1; omega) rx hrx d w
          have p1 := run_part f.type A' f.offset u hu hna (info_of_und hu) (fun h => (hsz h).1) w
          have p2 := run_part f.type B' f.offset u hu hna (info_of_und hu) (fun h => (hsz h).2) w
          simp only [Op.eqFields]
          rw [if_pos hf.1]
          simp only [Sem.run_bind, p1, p2, Result.andThen_ok, hrun]
          rcases hcase with ⟨rfl, hry⟩ | ⟨rfl, rfl⟩
          · simp only [Bool.not_true, Bool.false_eq_true, if_false]
            exact ihL ly r hry (fun g hg => hfs g (List.mem_cons_of_mem _ hg)) hly
          · simp
      | _ => cases h
theorem lenV_eq (l : List V) : lenV l = l.length := by
  induction l with
  | nil => rfl
  | cons x r ih => exact congrArg (· + 1) ih
/-- A whole struct. -/
theorem eqSt {t : TypeId} {l : List (Nat × Nat)} {fs : Array Field} {xs ys : List V} {Xs Ys : List Value} {r : Bool} (hf : fldsF Q 3 t 0 = some l) (hu : Q.underlying t = some (.struct fs)) (hst : StOK Q 3 t) (hX : DVL c.ν Γ xs Xs) (hY : DVL c.ν Γ ys Ys) (hr : eqA l xs ys = some r)
    (h1 : xs.length = szI Q t) (h2 : ys.length = szI Q t) : ∀ (d : Nat) (w : World), (Op.equalIn (d + 3) t (.agg Xs.toArray) (.agg Ys.toArray)).run Q w = .ok r w := by
  intro d w
  have h := (eqTy 3 t 0 l hf hst xs ys Xs Ys hX hY Xs.toArray Ys.toArray 0 (fun i _ => by simp) (fun i _ => by simp) r hr d w).1
  have hv : ∀ X : List Value, X.length = szI Q t → valA Q t X.toArray 0 = .agg X.toArray := fun X hX => by
    unfold valA
    rw [hu]
    simp only [isSt, if_true, Nat.zero_add]
    congr 1
    rw [← hX]
    apply Array.ext'
    simp
  rw [hv Xs (hX.length.trans h1), hv Ys (hY.length.trans h2)] at h
  exact h
end Go.Proofs.YtiekoeapmhhjbaaGreatDoor.X
/- The interpreter is sound, part H: operations with two operands, with one. -/
namespace Go.Proofs.YtiekoeapmhhjbaaGreatDoor.X
open Go
set_option linter.unusedVariables false
set_option linter.unusedSimpArgs false
variable {c : Ctx} {Γ Γ' : Gm} {m m' : M} {w w' : World} {ρ : Operand → Value} {e : En} {Q : Program}
def EqTs (Q : Program) : Prop := ∀ t, memT t eqTs = true → StOK Q 3 t ∧ Q.eqGuardType Q.depth t = false
theorem run_guard_no {op : BinOp} {t : TypeId} {xo yo : Operand} {x y : Value} (h1 : ∀ a b, ¬ (x = .agg a ∧ y = .agg b)) (h2 : ¬ (x = .nilIface ∧ y = .nilIface)) (w : World) : (eqGuard op t xo yo x y).run Q w = .ok () w := by
  unfold eqGuard
  cases op <;> try rfl
  all_goals
    cases x <;> try rfl
    all_goals
      cases y <;> try rfl
  · exact absurd ⟨rfl, rfl⟩ h2
  · exact absurd ⟨rfl, rfl⟩ (h1 _ _)
  · exact absurd ⟨rfl, rfl⟩ h2
  · exact absurd ⟨rfl, rfl⟩ (h1 _ _)
theorem run_guard_nil {op : BinOp} {t : TypeId} {xo yo : Operand} (h : (isC xo = true ∨ isC yo = true)) (w : World) : (eqGuard op t xo yo .nilIface .nilIface).run Q w = .ok () w := by
  unfold eqGuard
  cases op <;> try rfl
  all_goals
    cases xo <;> cases yo <;> first | rfl | (rcases h with h | h <;> cases h)
/-- Both operands are handed on to '=='. -/
def Plain (Q : Program) (t : TypeId) (x y : Value) : Prop :=
  (∀ w, (binOp .eql t x y).run Q w = ((Op.equal t x y).run Q w).andThen fun b w' => .ok (.bool b) w') ∧ (∀ w, (binOp .neq t x y).run Q w = ((Op.equal t x y).run Q w).andThen fun b w' => .ok (.bool (!b)) w')
theorem cmp_ok {op : BinOp} {b : Bool} {v : V} {t : TypeId} {xo yo : Operand} {x y : Value} (h : eqOp op b = some v) (hp : Plain Q t x y) (hg : ∀ w, (eqGuard op t xo yo x y).run Q w = .ok () w) (hs : ∀ w, (Op.equal t x y).run Q w = .ok b w) :
    ∃ z, DV c.ν Γ v z ∧ ∀ w, (do eqGuard op t xo yo x y; binOp op t x y : Sem Value).run Q w = .ok z w := by
  obtain ⟨z, h1, h2⟩ := eql_of_equal (c := c) (Γ := Γ) h hs hp.1 hp.2
  exact ⟨z, h1, fun w => by rw [Sem.run_bind, hg w]; exact h2 w⟩
theorem rngOp_ok {op : BinOp} {lo hi b n : Nat} {k : IntKind} {v : V} {t : TypeId} (hc : cmpOnly op = true) (hb : posI k b = true) (hh : posI k hi = true) (h1 : lo ≤ n) (h2 : n ≤ hi) (h : rngOp op lo hi b = some v) :
    ∃ z, DV c.ν Γ v z ∧ ∀ w, (binOp op t (.int k (k.wrap n)) (.int k (k.wrap b))).run Q w = .ok z w := by
  have hn := wrap_pos (posI_of hh h2)
  have hb' := wrap_pos hb
  rw [hn, hb']
  have three : ∀ {p q : Bool} {x y : V}, bi p (some x) (bi q (some y) none) = some v → (p = true ∧ v = x) ∨ (p = false ∧ q = true ∧ v = y) := by
    intro p q x y h
    cases p
    · rw [bi_f, bi_eq] at h
      exact .inr ⟨rfl, h.1, by cases h.2; rfl⟩
    · rw [bi_t] at h
      cases h
      exact .inl ⟨rfl, rfl⟩
  cases op <;> first | (cases hc; done) | skip
  · rcases three h with ⟨h3, rfl⟩ | ⟨h3, h4, rfl⟩
    · rw [Nat.blt_eq] at h3
      exact ⟨_, mk_bool, fun w => by simp [binOp, Op.intCmp]; omega⟩
    · rw [Nat.ble_eq] at h4
      exact ⟨_, mk_bool, fun w => by simp [binOp, Op.intCmp]; omega⟩
  · rcases three h with ⟨h3, rfl⟩ | ⟨h3, h4, rfl⟩
    · rw [Nat.ble_eq] at h3
      exact ⟨_, mk_bool, fun w => by simp [binOp, Op.intCmp]; omega⟩
    · rw [Nat.blt_eq] at h4
      exact ⟨_, mk_bool, fun w => by simp [binOp, Op.intCmp]; omega⟩
  · rcases three h with ⟨h3, rfl⟩ | ⟨h3, h4, rfl⟩
    · rw [Nat.blt_eq] at h3
      exact ⟨_, mk_bool, fun w => by simp [binOp, Op.intCmp]; omega⟩
    · rw [Nat.ble_eq] at h4
      exact ⟨_, mk_bool, fun w => by simp [binOp, Op.intCmp]; omega⟩
  · rcases three h with ⟨h3, rfl⟩ | ⟨h3, h4, rfl⟩
    · rw [Nat.ble_eq] at h3
      exact ⟨_, mk_bool, fun w => by simp [binOp, Op.intCmp]; omega⟩
    · rw [Nat.blt_eq] at h4
      exact ⟨_, mk_bool, fun w => by simp [binOp, Op.intCmp]; omega⟩
theorem gnrOp_ok {op : BinOp} {lo hi b n : Nat} {k : IntKind} {v : V} {t : TypeId} (hc : cmpOnly op = true) (hb : posI k b = true) (hh : posI k hi = true) (h1 : lo ≤ n) (h2 : n ≤ hi) (h : gnrOp op b lo hi = some v) :
    ∃ z, DV c.ν Γ v z ∧ ∀ w, (binOp op t (.int k (k.wrap b)) (.int k (k.wrap n))).run Q w = .ok z w := by
  have sw : ∀ w, (binOp .lss t (.int k (k.wrap b)) (.int k (k.wrap n))).run Q w = (binOp .gtr t (.int k (k.wrap n)) (.int k (k.wrap b))).run Q w ∧ (binOp .leq t (.int k (k.wrap b)) (.int k (k.wrap n))).run Q w = (binOp .geq t (.int k (k.wrap n)) (.int k (k.wrap b))).run Q w ∧
      (binOp .gtr t (.int k (k.wrap b)) (.int k (k.wrap n))).run Q w = (binOp .lss t (.int k (k.wrap n)) (.int k (k.wrap b))).run Q w ∧ (binOp .geq t (.int k (k.wrap b)) (.int k (k.wrap n))).run Q w = (binOp .leq t (.int k (k.wrap n)) (.int k (k.wrap b))).run Q w := fun w => by
    refine ⟨?_, ?_, ?_, ?_⟩ <;> simp [binOp, Op.intCmp]
  cases op <;> first | (cases hc; done) | skip
  · obtain ⟨z, h3, h4⟩ := rngOp_ok (c := c) (Γ := Γ) (Q := Q) (t := t) (op := .gtr) rfl hb hh h1 h2 h
    exact ⟨z, h3, fun w => ((sw w).1).trans (h4 w)⟩
  · obtain ⟨z, h3, h4⟩ := rngOp_ok (c := c) (Γ := Γ) (Q := Q) (t := t) (op := .geq) rfl hb hh h1 h2 h
    exact ⟨z, h3, fun w => ((sw w).2.1).trans (h4 w)⟩
  · obtain ⟨z, h3, h4⟩ := rngOp_ok (c := c) (Γ := Γ) (Q := Q) (t := t) (op := .lss) rfl hb hh h1 h2 h
    exact ⟨z, h3, fun w => ((sw w).2.2.1).trans (h4 w)⟩
  · obtain ⟨z, h3, h4⟩ := rngOp_ok (c := c) (Γ := Γ) (Q := Q) (t := t) (op := .leq) rfl hb hh h1 h2 h
    exact ⟨z, h3, fun w => ((sw w).2.2.2).trans (h4 w)⟩
end Go.Proofs.YtiekoeapmhhjbaaGreatDoor.X
