/- VaultBegins: the stages joined. -/
import Derived.Test.YtiekoeapmhhjbaaGreatDoorVA
namespace Go.Proofs.YtiekoeapmhhjbaaGreatDoor.X
open Go Go.RowKit
set_option linter.unusedVariables false
set_option linter.unusedSimpArgs false
set_option maxRecDepth 100000
set_option maxHeartbeats 0
theorem tl0 : q3 = .seq (pc 0) (tl 1) := by kernel_rfl
theorem tl1 : tl 1 = .seq (pc 1) (tl 2) := by kernel_rfl
theorem tl2 : tl 2 = .seq (pc 2) (tl 3) := by kernel_rfl
theorem tl3 : tl 3 = .seq (pc 3) (tl 4) := by kernel_rfl
theorem tl4 : tl 4 = .seq (pc 4) (tl 5) := by kernel_rfl
theorem tl5 : tl 5 = .seq (pc 5) (tl 6) := by kernel_rfl
theorem tl6 : tl 6 = .seq (pc 6) (tl 7) := by kernel_rfl
theorem tl7 : tl 7 = .seq (pc 7) (tl 8) := by kernel_rfl
theorem tl8 : tl 8 = .seq (pc 8) (tl 9) := by kernel_rfl
theorem tl9 : tl 9 = .seq (pc 9) (tl 10) := by kernel_rfl
theorem q3_body : Tryz.f3.body = some q3 := by kernel_rfl
/-! ### the inputs -/
/-- A number of bytes is of such a kind. -/
def BC (v a n : Nat) : Prop := (a = 0 → n = min v 26) ∧ (a = 1 → n = max 26 (min v 60)) ∧ (a = 2 → 60 ≤ n)
theorem bc_three (v n : Nat) : BC v 3 n := ⟨by omega, by omega, by omega⟩
structure In4 where
  (stop names bytes again : Nat)
  h0 : stop < 256
  h1 : names < 256
  h2 : bytes < 256
  h3 : again < 256
def u8v (n : Nat) : Value := .int .u8 n
def muV (I : In4) (v s i : Nat) (x : Value) : Prop :=
  (i = 2000 + s % 16 ∧ x = u8v s) ∨
  (∃ a, a < 256 ∧ i = 3000 + a ∧ x = u8v I.names ∧ ClsOK (a / 16) 8 (I.names % 9) ∧ ClsOK (a % 16) 28 (I.names / 9)) ∨
  (∃ a, a < 16 ∧ i = 4000 + a ∧ x = u8v I.bytes ∧ BC v (a / 4) I.bytes ∧ BC v (a % 4) (I.bytes / 2)) ∨
  (∃ a, a < 4 ∧ i = 5000 + a ∧ x = u8v (I.bytes / 2) ∧ BC v a (I.bytes / 2)) ∨
  (i = 2901 ∧ x = u8v I.names) ∨ (i = 2902 ∧ x = u8v I.bytes) ∨ (i = 2903 ∧ x = u8v I.again)
theorem mu_names {I : In4} {v s a : Nat} {x : Value} (ha : a < 256) (h : muV I v s (3000 + a) x) : x = u8v I.names ∧ ClsOK (a / 16) 8 (I.names % 9) ∧ ClsOK (a % 16) 28 (I.names / 9) := by
  rcases h with h | ⟨b, h1, h2, h3⟩ | ⟨b, h1, h2, h3⟩ | ⟨b, h1, h2, h3⟩ | h | h | h
  · exfalso; omega
  · have : a = b := by omega
    subst this
    exact h3
  all_goals (exfalso; omega)
theorem mu_bytes {I : In4} {v s a : Nat} {x : Value} (ha : a < 16) (h : muV I v s (4000 + a) x) : x = u8v I.bytes ∧ BC v (a / 4) I.bytes ∧ BC v (a % 4) (I.bytes / 2) := by
  rcases h with h | ⟨b, h1, h2, h3⟩ | ⟨b, h1, h2, h3⟩ | ⟨b, h1, h2, h3⟩ | h | h | h
  · exfalso; omega
  · exfalso; omega
  · have : a = b := by omega
    subst this
    exact h3
  all_goals (exfalso; omega)
theorem mu_2901 {I : In4} {v s : Nat} {x : Value} (h : muV I v s 2901 x) : x = u8v I.names := by
  rcases h with h | ⟨b, h1, h2, h3⟩ | ⟨b, h1, h2, h3⟩ | ⟨b, h1, h2, h3⟩ | h | h | h
  all_goals first | exact h.2 | (exfalso; omega)
theorem mu_2902 {I : In4} {v s : Nat} {x : Value} (h : muV I v s 2902 x) : x = u8v I.bytes := by
  rcases h with h | ⟨b, h1, h2, h3⟩ | ⟨b, h1, h2, h3⟩ | ⟨b, h1, h2, h3⟩ | h | h | h
  all_goals first | exact h.2 | (exfalso; omega)
theorem mu_2903 {I : In4} {v s : Nat} {x : Value} (h : muV I v s 2903 x) : x = u8v I.again := by
  rcases h with h | ⟨b, h1, h2, h3⟩ | ⟨b, h1, h2, h3⟩ | ⟨b, h1, h2, h3⟩ | h | h | h
  all_goals first | exact h.2 | (exfalso; omega)
/-- The names of a run: the torn file's length; the kind of a number of bytes. -/
def nmOf (I : In4) (z : Nat) (hz : z ≤ 60) (v : Nat) (s : {n : Nat // n < 256}) : Nm where
  z0 := z
  z1 := min v 26
  z2 := max 26 (min v 60)
  μ := muV I v s.1
  h0 := hz
  h1 := by omega
  h2 := by omega
  h3 := by omega
  inp := fun k x hs h => by
    have i0 := s.2
    rcases h with h | ⟨b, h1, h2, h3⟩ | ⟨b, h1, h2, h3⟩ | ⟨b, h1, h2, h3⟩ | h | h | h
    · exact ⟨s.1, i0, h.2, by omega⟩
    all_goals (exfalso; omega)
  nam := fun a x ha h => by
    obtain ⟨h1, h2, h3⟩ := mu_names ha h
    exact ⟨I.names, I.h1, h1, h2, h3⟩
  byt := fun a x ha h => by
    obtain ⟨h1, h2, h3⟩ := mu_bytes ha h
    refine ⟨I.bytes, I.h2, h1, h2, ?_⟩
    exact .inr (.inr (.inr (.inl ⟨a % 4, by omega, rfl, rfl, h3⟩)))
  hlf := fun a x ha h => by
    have i2 := I.h2
    rcases h with h | ⟨b, h1, h2, h3⟩ | ⟨b, h1, h2, h3⟩ | ⟨b, h1, h2, h3⟩ | h | h | h
    · exfalso; omega
    · exfalso; omega
    · exfalso; omega
    · have : a = b := by omega
      subst this
      exact ⟨I.bytes / 2, by omega, h3.1, h3.2⟩
    all_goals (exfalso; omega)
/-! ### pieces -/
theorem yes_andA {x y : A} (h : Yes (andA x y)) : Yes x ∧ Yes y := by
  cases x with
  | none => exact (yes_none h).elim
  | some r => exact ⟨⟨r, rfl⟩, h⟩
theorem yes_orA {x y : A} (h : Yes (orA x y)) : Yes x ∨ Yes y := by
  cases x with
  | none => exact .inr h
  | some r => exact .inl ⟨r, rfl⟩
theorem yes_allA {α : Type} {p : α → A} {m : M} : ∀ {l : List α}, Yes (allA p l m) → ∀ x ∈ l, Yes (p x)
  | [], _, x, hx => by cases hx
  | y :: l, h, x, hx => by
    have h' : Yes (andA (p y) (allA p l m)) := h
    obtain ⟨h1, h2⟩ := yes_andA h'
    rcases List.mem_cons.1 hx with rfl | hx
    · exact h1
    · exact yes_allA h2 x hx
theorem allF_spec {p : Nat → Bool} : ∀ {n a : Nat}, allF p n a = true → ∀ i, a ≤ i → i < a + n → p i = true
  | 0, a, _, i, h1, h2 => by omega
  | n + 1, a, h, i, h1, h2 => by
    have h' : frc a (fun a => bi (p a) (allF p n (a + 1)) false) = true := h
    rw [frc_eq] at h'
    obtain ⟨h3, h4⟩ := bi_and h'
    rcases Nat.lt_or_ge a i with hlt | hge
    · exact allF_spec h4 i (by omega) (by omega)
    · have : i = a := by omega
      rw [this]
      exact h3
theorem anyB_spec {α : Type} {p : α → Bool} : ∀ {l : List α}, anyB p l = true → ∃ x ∈ l, p x = true
  | [], h => by cases h
  | y :: l, h => by
    have h' : bi (p y) true (anyB p l) = true := h
    cases hp : p y with
    | true => exact ⟨y, List.mem_cons_self .., hp⟩
    | false =>
      rw [hp, bi_f] at h'
      obtain ⟨x, hx, h2⟩ := anyB_spec h'
      exact ⟨x, List.mem_cons_of_mem _ hx, h2⟩
theorem awake12 : runB hookF 6 [] = true := by kernel_rfl
theorem hk_ok : HkOK hk := by
  intro f g h n X hX
  unfold hk at h
  cases h1 : Nat.beq f 6 with
  | true =>
    rw [h1] at h
    cases h
    have := Nat.eq_of_beq_eq_true h1
    subst this
    exact awk_ok awake12 X
  | false =>
    rw [h1] at h
    exact hooks f g h n X hX
section
variable {c : Ctx} {Γ Γ' : Gm} {m m' : M} {w w' : World} {e : En} {a : Act} {ds : List Nat} {Q : Exit → Act → World → Prop}
theorem hasE_sub {sz : Nat} (h : HasE c.ν Γ sz e ds a) {t : Nat} {v : V} (hv : DV c.ν Γ v (a.tmps.getD t undef)) : HasE c.ν Γ sz (uE t v e) ds a := by
  refine ⟨h.size, fun k => ?_, h.defers⟩
  by_cases hk : k = t
  · subst hk
    rcases gE_same k v e with h1 | h1
    · rw [h1]; exact hv
    · rw [h1, DV]; trivial
  · rw [gE_ne hk]; exact h.at_ k
theorem seqR_ok (hh : HkOK hk) {q t : Code} {K : Kn} (hR : Rel c Γ m w) (hE : HasE c.ν Γ sz3 e ds a) (hy : Yes (seqR q K e ds m))
    (hK : ∀ Γ' e' ds' m' a' w', Rel c Γ' m' w' → HasE c.ν Γ' sz3 e' ds' a' → Yes (K e' ds' m') → t.wpIn (Fw none) 0 P Q a' w') : (Code.seq q t).wpIn (Fw none) 0 P Q a w := by
  unfold seqR xx at hy
  refine wpIn_seq (code_ok facts (drawOK facts) hh (exec_ok facts (drawOK facts) hh 1000000) q c sz3 none none e ds m K nox Γ a w _ rfl hR hE ?_ ?_ hy)
  · intro Γ' e' ds' m' a' w' hl hR' hE' hy'
    exact hK Γ' e' ds' m' a' w' hR' hE' hy'
  · intro r Γ' e' ds' m' a' w' hne hl hR' hE' hy'
    exact (yes_none hy').elim
end
theorem tag_eq {t i : Nat} {e : En} (h : tag t i e = true) : gE t e = .opq i := eqV_eq 2 h
/-- The disk is as is said, and the inputs are where they were. -/
def AtC (W : World) (I : In4) (S : Cn) (a : Act) (w : World) : Prop :=
  ∃ (Γ : Gm) (z : Nat) (hz : z ≤ 60), ∀ v s, Rel (ctxC (nmOf I z hz v s) W (mkM S.n S.bs).get) Γ (mkM S.n S.bs) w ∧ HasE ((nmOf I z hz v s).ν W) Γ sz3 (mkE envC) [] a
theorem cut_ok2 {W : World} (h6 : Start W) {I : In4} {z : Nat} {hz : z ≤ 60} {v : Nat} {s : {n : Nat // n < 256}} {r : Nat → Blk} {Γ : Gm} {m : M} {w : World} {e : En} {ds : List Nat} {a : Act} {tab : List Cn} {g ka kb : Nat}
    (hka : ka < 256) (hkb : kb < 16) (hg : muV I v s.1 g (a.tmps.getD 3 undef) → 2000 ≤ g → a.tmps.getD 3 undef = u8v I.again) (hg2 : 2000 ≤ g)
    (hR : Rel (ctxC (nmOf I z hz v s) W r) Γ m w) (hE : HasE ((nmOf I z hz v s).ν W) Γ sz3 e ds a) (hy : Yes (cutK tab g (3000 + ka) (4000 + kb) e ds m)) : ∃ S ∈ tab, AtC W I S a w := by
  obtain ⟨h1, hy⟩ := yes_bi hy
  obtain ⟨h2, hy⟩ := yes_bi hy
  obtain ⟨h3, hy⟩ := yes_bi hy
  obtain ⟨h4, hy⟩ := yes_bi hy
  obtain ⟨h5, _⟩ := yes_bi hy
  rw [isNil_iff] at h1
  subst h1
  have k1 := hE.at_ 1
  have k2 := hE.at_ 2
  have k3 := hE.at_ 3
  have k9 := hE.at_ 9
  rw [tag_eq h2, DV] at k1
  rw [tag_eq h3, DV] at k2
  rw [tag_eq h4, DV] at k3
  have e1 := (mu_names hka (((nmOf I z hz v s).mu W (by omega)).1 k1.1)).1
  have e2 := (mu_bytes hkb (((nmOf I z hz v s).mu W (by omega)).1 k2.1)).1
  have e3 := hg (((nmOf I z hz v s).mu W hg2).1 k3.1) hg2
  unfold chk at h5
  cases hs : sgOf e m with
  | none => rw [hs] at h5; cases h5
  | some l =>
    rw [hs] at h5
    obtain ⟨S, hS, h6'⟩ := anyB_spec h5
    obtain ⟨h7, h8⟩ := bi_and h6'
    obtain ⟨Γ', z', hz', H⟩ := cut_rel h6 hR h8
    refine ⟨S, hS, Γ', z', hz', fun v' s' => ?_⟩
    obtain ⟨H1, H2⟩ := H (nmOf I z' hz' v' s') rfl
    refine ⟨H1, cut_env (c := ctxC (nmOf I z hz v s) W r) (c' := ctxC (nmOf I z' hz' v' s') W (mkM S.n S.bs).get) (Γ := Γ) hE fun x hx => ?_⟩
    have op : ∀ i x, 2000 ≤ i → x.oneCell' = true → muV I v' s'.1 i x → DV (ctxC (nmOf I z' hz' v' s') W (mkM S.n S.bs).get).ν Γ' (.opq i) x := fun i x hi h1 hm => by
      rw [DV]
      exact ⟨((nmOf I z' hz' v' s').mu W hi).2 hm, h1⟩
    have hx : x ∈ [(1, V.opq 2901), (2, V.opq 2902), (3, V.opq 2903), (9, V.ptr 6 0)] := hx
    simp only [List.mem_cons, List.not_mem_nil, or_false] at hx
    rcases hx with rfl | rfl | rfl | rfl
    · show DV _ Γ' (.opq 2901) (a.tmps.getD 1 undef)
      rw [e1]
      exact op 2901 _ (by decide) rfl (.inr (.inr (.inr (.inr (.inl ⟨rfl, rfl⟩)))))
    · show DV _ Γ' (.opq 2902) (a.tmps.getD 2 undef)
      rw [e2]
      exact op 2902 _ (by decide) rfl (.inr (.inr (.inr (.inr (.inr (.inl ⟨rfl, rfl⟩))))))
    · show DV _ Γ' (.opq 2903) (a.tmps.getD 3 undef)
      rw [e3]
      exact op 2903 _ (by decide) rfl (.inr (.inr (.inr (.inr (.inr (.inr ⟨rfl, rfl⟩))))))
    · exact H2 _ _ _ h7 k9
/-- A restart: whatever the names, whatever the bytes. -/
theorem varR_ok (hh : HkOK hk) {W : World} (h6 : Start W) {I : In4} {z : Nat} {hz : z ≤ 60} {v : Nat} {s : {n : Nat // n < 256}} {r : Nat → Blk} {Γ : Gm} {m : M} {w : World} {e : En} {ds : List Nat} {a : Act} {Q : Exit → Act → World → Prop} {q t : Code} {tab : List Cn} {g : Nat} {f : Nat → Nat} {ns : List Nat}
    (hns : ∃ ka ∈ ns, ka < 256 ∧ ClsOK (ka / 16) 8 (I.names % 9) ∧ ClsOK (ka % 16) 28 (I.names / 9)) (hf : ∀ k, k < 4 → BC v k v → f k < 16 ∧ BC v (f k / 4) I.bytes ∧ BC v (f k % 4) (I.bytes / 2))
    (hg : ∀ x, muV I v s.1 g x → x = u8v I.again) (hg2 : 2000 ≤ g)
    (hR : Rel (ctxC (nmOf I z hz v s) W r) Γ m w) (hE : HasE ((nmOf I z hz v s).ν W) Γ sz3 e ds a) (hy : Yes (varR q tab g f ns e ds m))
    (hC : ∀ S ∈ tab, ∀ a' w', AtC W I S a' w' → t.wpIn (Fw none) 0 P Q a' w') : (Code.seq q t).wpIn (Fw none) 0 P Q a w := by
  unfold varR at hy
  obtain ⟨h1, hy⟩ := yes_bi hy
  obtain ⟨h2, hy⟩ := yes_bi hy
  obtain ⟨h3, hy⟩ := yes_bi hy
  obtain ⟨h4, hy4⟩ := yes_bi hy
  rw [isNil_iff] at h1
  subst h1
  obtain ⟨ka, hka, hka2, c1, c2⟩ := hns
  have hy2 := yes_allA hy4 ka hka
  have key : ∃ k, k < 4 ∧ BC v k v ∧ Yes (oneR q tab g e m ka (f k)) := by
    rcases yes_orA hy2 with h | h
    · exact ⟨3, by decide, bc_three v v, h⟩
    · obtain ⟨h5, h⟩ := yes_andA h
      obtain ⟨h6, h7⟩ := yes_andA h
      rcases Nat.lt_or_ge v 27 with hv | hv
      · exact ⟨0, by decide, ⟨by omega, by omega, by omega⟩, h5⟩
      · rcases Nat.lt_or_ge v 60 with hv2 | hv2
        · exact ⟨1, by decide, ⟨by omega, by omega, by omega⟩, h6⟩
        · exact ⟨2, by decide, ⟨by omega, by omega, by omega⟩, h7⟩
  obtain ⟨k, hk4, hbc, hy3⟩ := key
  unfold oneR xx at hy3
  obtain ⟨hf1, hf2, hf3⟩ := hf k hk4 hbc
  have k1 := hE.at_ 1
  have k2 := hE.at_ 2
  rw [tag_eq h2, DV] at k1
  rw [tag_eq h3, DV] at k2
  have e1 := mu_2901 (((nmOf I z hz v s).mu W (by decide)).1 k1.1)
  have e2 := mu_2902 (((nmOf I z hz v s).mu W (by decide)).1 k2.1)
  have hE2 : HasE (ctxC (nmOf I z hz v s) W r).ν Γ sz3 (uE 1 (.opq (3000 + ka)) (uE 2 (.opq (4000 + f k)) e)) [] a := by
    refine hasE_sub (hasE_sub hE ?_) ?_
    · rw [e2, DV]
      exact ⟨((nmOf I z hz v s).mu W (by omega)).2 (.inr (.inr (.inl ⟨f k, hf1, rfl, rfl, hf2, hf3⟩))), rfl⟩
    · rw [e1, DV]
      exact ⟨((nmOf I z hz v s).mu W (by omega)).2 (.inr (.inl ⟨ka, hka2, rfl, rfl, c1, c2⟩)), rfl⟩
  refine wpIn_seq (code_ok facts (drawOK facts) hh (exec_ok facts (drawOK facts) hh 1000000) q (ctxC (nmOf I z hz v s) W r) sz3 none none _ [] m (cutK tab g (3000 + ka) (4000 + f k)) nox Γ a w _ rfl hR hE2 ?_ ?_ hy3)
  · intro Γ' e' ds' m' a' w' hl hR' hE' hy'
    obtain ⟨S, hS, hA⟩ := cut_ok2 h6 hka2 hf1 (fun h _ => hg _ h) hg2 hR' hE' hy'
    exact hC S hS a' w' hA
  · intro r Γ' e' ds' m' a' w' hne hl hR' hE' hy'
    exact (yes_none hy').elim
theorem ns1_ok {n : Nat} (h : n < 256) : ∃ ka ∈ ns1, ka < 256 ∧ ClsOK (ka / 16) 8 (n % 9) ∧ ClsOK (ka % 16) 28 (n / 9) := by
  have hq : ClsOK 8 28 (n / 9) := by unfold ClsOK; rw [if_neg (by decide)]; omega
  have : n % 9 = 0 ∨ n % 9 = 1 ∨ 2 ≤ n % 9 := by omega
  rcases this with h1 | h1 | h1
  · exact ⟨8, .head _, by decide, by unfold ClsOK; rw [if_pos (by decide)]; omega, hq⟩
  · exact ⟨24, .tail _ (.head _), by decide, by unfold ClsOK; rw [if_pos (by decide)]; omega, hq⟩
  · exact ⟨168, .tail _ (.tail _ (.head _)), by decide, by unfold ClsOK; rw [if_neg (by decide)]; omega, hq⟩
theorem ns2_ok {n : Nat} (h : n < 256) : ∃ ka ∈ ns2, ka < 256 ∧ ClsOK (ka / 16) 8 (n % 9) ∧ ClsOK (ka % 16) 28 (n / 9) := by
  have hq : ClsOK 8 8 (n % 9) := by unfold ClsOK; rw [if_neg (by decide)]; omega
  have : n / 9 = 0 ∨ n / 9 = 1 ∨ n / 9 = 2 ∨ n / 9 = 3 ∨ 4 ≤ n / 9 := by omega
  rcases this with h1 | h1 | h1 | h1 | h1
  · exact ⟨128, .head _, by decide, hq, by unfold ClsOK; rw [if_pos (by decide)]; omega⟩
  · exact ⟨129, .tail _ (.head _), by decide, hq, by unfold ClsOK; rw [if_pos (by decide)]; omega⟩
  · exact ⟨130, .tail _ (.tail _ (.head _)), by decide, hq, by unfold ClsOK; rw [if_pos (by decide)]; omega⟩
  · exact ⟨131, .tail _ (.tail _ (.tail _ (.head _))), by decide, hq, by unfold ClsOK; rw [if_pos (by decide)]; omega⟩
  · exact ⟨140, .tail _ (.tail _ (.tail _ (.tail _ (.head _)))), by decide, hq, by unfold ClsOK; rw [if_neg (by decide)]; omega⟩
theorem mu_s {I : In4} {v s : Nat} {x : Value} (h : muV I v s (2000 + s % 16) x) : x = u8v s := by
  rcases h with h | ⟨b, h1, h2, h3⟩ | ⟨b, h1, h2, h3⟩ | ⟨b, h1, h2, h3⟩ | h | h | h
  all_goals first | exact h.2 | (exfalso; omega)
end Go.Proofs.YtiekoeapmhhjbaaGreatDoor.X
