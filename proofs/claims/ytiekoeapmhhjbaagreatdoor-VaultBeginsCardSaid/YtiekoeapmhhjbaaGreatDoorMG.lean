/- The interpreter is sound: regions that draw their order; functions whose outcomes are one. -/
import Derived.Test.YtiekoeapmhhjbaaGreatDoorMA
import Derived.Test.YtiekoeapmhhjbaaGreatDoorMF
/- The interpreter is sound, part QF: a drawn region as it stands. -/
namespace Go.Proofs.YtiekoeapmhhjbaaGreatDoor.X
open Go Go.RowKit
set_option linter.unusedVariables false
set_option linter.unusedSimpArgs false
variable {c : Ctx} {Γ Γ' : Gm} {m m' : M} {w w' : World} {e e' : En} {a : Act} {ds : List Nat} {sz : Nat}
theorem erase_ex (E : Nat → Prop) (e : En) : ∀ T : List Nat, ∃ e', ∀ t, (t ∈ T → E t → gE t e' = .any) ∧ ((t ∈ T → ¬ E t) → gE t e' = gE t e)
  | [] => ⟨e, fun t => ⟨fun h => (by cases h), fun _ => rfl⟩⟩
  | s :: T => by
    classical
    obtain ⟨e1, h1⟩ := erase_ex E e T
    by_cases hs : E s
    · refine ⟨uE s .any e1, fun t => ⟨fun ht hE => ?_, fun hE => ?_⟩⟩
      · by_cases hts : t = s
        · subst hts
          rcases gE_same t .any e1 with h | h <;> exact h
        · rw [gE_ne hts]
          exact (h1 t).1 ((List.mem_cons.1 ht).resolve_left hts) hE
      · have hts : t ≠ s := fun hts => hE (by rw [hts]; exact List.mem_cons_self ..) (by rw [hts]; exact hs)
        rw [gE_ne hts]
        exact (h1 t).2 fun ht => hE (List.mem_cons_of_mem _ ht)
    · refine ⟨e1, fun t => ⟨fun ht hE => ?_, fun hE => (h1 t).2 fun ht => hE (List.mem_cons_of_mem _ ht)⟩⟩
      rcases List.mem_cons.1 ht with rfl | ht
      · exact absurd hE hs
      · exact (h1 t).1 ht hE
/-- Has it come up? -/
def Ls (listed : Array Bool) (i : Nat) : Prop := listed.getD i false = true
theorem Ls_set {listed : Array Bool} {i j : Nat} (hi : i < listed.size) : Ls (listed.setIfInBounds i true) j ↔ Ls listed j ∨ j = i := by
  unfold Ls
  by_cases hij : j = i
  · subst hij
    simp [hi]
  · rw [getD_set_ne false (Ne.symm hij)]
    exact ⟨.inl, fun h => h.resolve_right hij⟩
theorem pw_or : ∀ {L : List It}, L.Pairwise Okp → ∀ x ∈ L, ∀ y ∈ L, x = y ∨ Okp x y ∨ Okp y x
  | [], _, x, hx => by cases hx
  | z :: L, h, x, hx => by
    intro y hy
    rw [List.pairwise_cons] at h
    rcases List.mem_cons.1 hx with rfl | hx'
    · rcases List.mem_cons.1 hy with rfl | hy'
      · exact .inl rfl
      · exact .inr (.inl (h.1 y hy'))
    · rcases List.mem_cons.1 hy with rfl | hy'
      · exact .inr (.inr (h.1 x hx'))
      · exact pw_or h.2 x hx' y hy'
theorem pw_uniq {L : List It} (h : L.Pairwise Okp) {x y : It} (hx : x ∈ L) (hy : y ∈ L) (he : x.1 = y.1) : x = y := by
  rcases pw_or h x hx y hy with h | h | h
  · exact h
  · exact absurd he h.ne
  · exact absurd he.symm h.ne
/-- Temporaries of which the interpreter does not say what the frame has: those of what it has done and which has not come up yet; those of what has come up and which it has not done yet. -/
def Er (listed : Array Bool) (pre rest : List It) (t : Nat) : Prop := (∃ x ∈ pre, ¬ Ls listed x.1 ∧ Ds x t) ∨ ∃ x ∈ rest, Ls listed x.1 ∧ Ds x t
/-- Done by the interpreter; it will yield the same when it comes up. -/
def Inv (ops : Array Oper) (sz : Nat) (e : En) (m : M) (o : Oper) : Prop := ∃ v, (∀ (h : Hk) (X : Ex) (K : Kt), cG ops.toList o h X e m K = K v m) ∧ ∀ d, o.dst = some d → d < sz ∧ (gE d e = v ∨ gE d e = .any)
/-- Come up ahead: a row that nobody knows of yet. -/
def Rec1 (c : Ctx) (ops : Array Oper) (o : Oper) (a : Act) (p : Nat → Option Obj) (b : Nat) : Prop := ∃ d, o.dst = some d ∧
  ((Region.wanted o (yielded ops a.tmps) = true ∧ ∃ (obj : Obj) (w1 : World), w1.heap.size = b ∧ (execOp a.eval o).run P w1 = .ok (.value (a.tmps.getD d undef)) (w1.alloc obj) ∧ p b = some obj ∧ c.pr b = none) ∨
   (Region.wanted o (yielded ops a.tmps) = false ∧ a.tmps.getD d undef = undef))
def prC (c : Ctx) (p : Nat → Option Obj) : Ctx := { c with pr := p }
theorem Rel.weak {p : Nat → Option Obj} (h : Rel c Γ m w) (hp : ∀ q o, p q = some o → c.pr q = some o) (hg : ∀ g, g < 2 → p g = c.pr g) : Rel (prC c p) Γ m w :=
  ⟨h.os, h.tape, h.output, h.dom, h.glob, h.hold, h.dis, fun q o hq => h.prot q o (hp q o hq), h.lg, fun g hgl => by
    obtain ⟨A, T, fr, y, h1, h2, h3, h4⟩ := h.gl g hgl
    exact ⟨A, T, fr, y, (hg g hgl).trans h1, h2, h3, h4⟩⟩
structure DSt (h : Hk) (X : Ex) (ops : Array Oper) (L : List It) (c : Ctx) (sz : Nat) (ds : List Nat) (Kf : En → M → A) (listed : Array Bool) (pre rest : List It) (e : En) (m : M) (Γ : Gm) (a : Act) (w : World) (p : Nat → Option Obj) (β : Nat → Nat) : Prop where
  split : L = pre.reverse ++ rest
  siz : listed.size = ops.size
  down : ∀ (i : Nat) (oi : Oper), ops[i]? = some oi → Ls listed i → ∀ j ∈ depsO oi, Ls listed j
  rel : Rel (prC c p) Γ m w
  prp : ∀ q o, c.pr q = some o → p q = some o
  gl0 : ∀ g, g < 2 → ∃ o, c.pr g = some o
  size : a.tmps.size = sz
  at_ : ∀ t, ¬ Er listed pre rest t → DV c.ν Γ (gE t e) (a.tmps.getD t undef)
  dfr : ∃ l : List Nat, a.defers = l.map Sx.markD ∧ Mks Γ ds l
  yes : Yes ((cDr ops.toList rest pre).f h X sz e m Kf)
  preD : ∀ x ∈ pre, 2 ≤ x.2.cls → Ls listed x.1
  restD : ∀ x ∈ rest, Ls listed x.1 → x.2.cls = 3
  late : ∀ x ∈ pre, ¬ Ls listed x.1 → ∀ o, ops[x.1]? = some o → Inv ops sz e m o
  early : ∀ x ∈ rest, Ls listed x.1 → ∀ o, ops[x.1]? = some o → Rec1 c ops o a p (β x.1)
  inj : ∀ x ∈ rest, ∀ y ∈ rest, Ls listed x.1 → Ls listed y.1 → x.1 ≠ y.1 → ∀ ox oy, ops[x.1]? = some ox → ops[y.1]? = some oy → Region.wanted ox (yielded ops a.tmps) = true → Region.wanted oy (yielded ops a.tmps) = true → β x.1 ≠ β y.1
section
variable {h : Hk} {X : Ex} {ops : Array Oper} {L : List It} {Kf : En → M → A} {listed : Array Bool} {pre rest : List It} {p : Nat → Option Obj} {β : Nat → Nat}
theorem DSt.memP (S : DSt h X ops L c sz ds Kf listed pre rest e m Γ a w p β) {x : It} (hx : x ∈ pre) : x ∈ L := by rw [S.split]; simp [hx]
theorem DSt.memR (S : DSt h X ops L c sz ds Kf listed pre rest e m Γ a w p β) {x : It} (hx : x ∈ rest) : x ∈ L := by rw [S.split]; simp [hx]
theorem DSt.cross (S : DSt h X ops L c sz ds Kf listed pre rest e m Γ a w p β) (hD : Dok ops L) {x y : It} (hx : x ∈ pre) (hy : y ∈ rest) : Okp x y := by
  have := hD.pair
  rw [S.split, List.pairwise_append] at this
  exact this.2.2 x (by simp [hx]) y hy
theorem DSt.restP (S : DSt h X ops L c sz ds Kf listed pre rest e m Γ a w p β) (hD : Dok ops L) : rest.Pairwise Okp := by
  have := hD.pair
  rw [S.split, List.pairwise_append] at this
  exact this.2.1
/-- What has come up has what it waits for. -/
theorem DSt.waits (S : DSt h X ops L c sz ds Kf listed pre rest e m Γ a w p β) (hD : Dok ops L) {x : It} (hx : x ∈ L) (hl : Ls listed x.1) {j : Nat} (hj : Wt x j) : Ls listed j := by
  obtain ⟨o, ho⟩ := hD.item x hx
  exact ho.wait (Ls listed) S.down (S.down x.1 o ho.get hl) j hj
theorem DSt.ready (S : DSt h X ops L c sz ds Kf listed pre rest e m Γ a w p β) (hD : Dok ops L) {x : It} {o : Oper} (ho : ItOK ops x o) (hd : ∀ j ∈ depsO o, Ls listed j) {j : Nat} (hj : Wt x j) : Ls listed j :=
  ho.wait (Ls listed) S.down hd j hj
theorem item_u {x : It} {o : Oper} (ho : ItOK ops x o) {t : Nat} (ht : Looks ops o t) : Us x t := by
  unfold Us
  rw [ho.u]
  exact looks_u ht
theorem item_d {x : It} {o : Oper} (ho : ItOK ops x o) {t : Nat} : Ds x t ↔ o.dst = some t := by
  unfold Ds
  rw [ho.d]
  exact dst_d
/-- A frame as the interpreter has it, but for what is not known. -/
theorem DSt.hasE (S : DSt h X ops L c sz ds Kf listed pre rest e m Γ a w p β) (hD : Dok ops L) {o : Oper} (hl : ∀ t, Looks ops o t → ¬ Er listed pre rest t) : ∃ e', HasE c.ν Γ sz e' ds a ∧ ∀ t, Looks ops o t → gE t e = gE t e' := by
  obtain ⟨e', he⟩ := erase_ex (Er listed pre rest) e (ops.toList.filterMap (·.dst))
  have hT : ∀ t, Er listed pre rest t → t ∈ ops.toList.filterMap (·.dst) := fun t ht => by
    have key : ∀ x ∈ L, Ds x t → t ∈ ops.toList.filterMap (·.dst) := fun x hx hd => by
      obtain ⟨o, ho⟩ := hD.item x hx
      rw [item_d ho] at hd
      exact List.mem_filterMap.2 ⟨o, List.mem_of_getElem? (by rw [Array.getElem?_toList]; exact ho.get), hd⟩
    rcases ht with ⟨x, hx, _, hd⟩ | ⟨x, hx, _, hd⟩
    · exact key x (S.memP hx) hd
    · exact key x (S.memR hx) hd
  refine ⟨e', ⟨S.size, fun t => ?_, S.dfr⟩, fun t ht => ((he t).2 fun _ => hl t ht).symm⟩
  by_cases hE : Er listed pre rest t
  · rw [(he t).1 (hT t hE) hE, DV]
    trivial
  · rw [(he t).2 fun _ => hE]
    exact S.at_ t hE
/-- What an operation that comes up late looks at is known. -/
theorem DSt.key1 (S : DSt h X ops L c sz ds Kf listed pre rest e m Γ a w p β) (hD : Dok ops L) {x : It} {o : Oper} (ho : ItOK ops x o) (hx : x ∈ pre) (hn : ¬ Ls listed x.1) (hd : ∀ j ∈ depsO o, Ls listed j) {t : Nat} (ht : Us x t) : ¬ Er listed pre rest t := by
  rintro (⟨z, hz, hzl, hzd⟩ | ⟨z, hz, hzl, hzd⟩)
  · rcases pw_or hD.pair z (S.memP hz) x (S.memP hx) with he | hk | hk
    · subst he
      rcases hD.self z (S.memP hz) with hc | hc
      · exact hn (S.preD z hx (by omega))
      · exact hc.1 t hzd ht
    · by_cases hw : Wt x z.1
      · exact hzl (S.ready hD ho hd hw)
      · exact (hk.un hw).2.2 t hzd ht
    · by_cases hw : Wt z x.1
      · rcases hk.ord hw with hc | hc
        · exact hzl (S.preD z hz (by omega))
        · exact (hc t hzd).1 ht
      · exact ((hk.un hw).2.1 t hzd).1 ht
  · have hk := S.cross hD hx hz
    by_cases hw : Wt z x.1
    · exact hn (S.waits hD (S.memR hz) hzl hw)
    · exact ((hk.un hw).2.1 t hzd).1 ht
/-- What the next operation looks at is known. -/
theorem DSt.key2 (S : DSt h X ops L c sz ds Kf listed pre rest e m Γ a w p β) (hD : Dok ops L) {x : It} {o : Oper} (ho : ItOK ops x o) {r : List It} (hr : rest = x :: r) (hd : ∀ j ∈ depsO o, Ls listed j) (hself : Ls listed x.1 → ∀ t, Ds x t → ¬ Us x t) {t : Nat} (ht : Us x t) : ¬ Er listed pre rest t := by
  rintro (⟨z, hz, hzl, hzd⟩ | ⟨z, hz, hzl, hzd⟩)
  · have hk := S.cross hD hz (by rw [hr]; exact List.mem_cons_self ..)
    by_cases hw : Wt x z.1
    · exact hzl (S.ready hD ho hd hw)
    · exact (hk.un hw).2.2 t hzd ht
  · have hz' := hz
    rw [hr] at hz'
    rcases List.mem_cons.1 hz' with rfl | hz'
    · exact hself hzl t hzd ht
    · have hk : Okp x z := by
        have := S.restP hD
        rw [hr, List.pairwise_cons] at this
        exact this.1 z hz'
      by_cases hw : Wt z x.1
      · rcases hk.ord hw with hc | hc
        · have := S.restD z hz hzl
          omega
        · exact (hc t hzd).1 ht
      · exact ((hk.un hw).2.1 t hzd).1 ht
/-- .. and what one that makes a row looks at, though it comes up ahead. -/
theorem DSt.key3 (S : DSt h X ops L c sz ds Kf listed pre rest e m Γ a w p β) (hD : Dok ops L) {x y : It} {o : Oper} (ho : ItOK ops x o) {r : List It} (hr : rest = y :: r) (hx : x ∈ r) (hc3 : x.2.cls = 3) (hn : ¬ Ls listed x.1) (hny : ¬ Ls listed y.1) (hy2 : 2 ≤ y.2.cls) (hd : ∀ j ∈ depsO o, Ls listed j) {t : Nat} (ht : Us x t) : ¬ Er listed pre rest t := by
  rintro (⟨z, hz, hzl, hzd⟩ | ⟨z, hz, hzl, hzd⟩)
  · have hk := S.cross hD hz (show x ∈ rest by rw [hr]; exact List.mem_cons_of_mem _ hx)
    by_cases hw : Wt x z.1
    · exact hzl (S.ready hD ho hd hw)
    · exact (hk.un hw).2.2 t hzd ht
  · have hz' := hz
    rw [hr] at hz'
    rcases List.mem_cons.1 hz' with rfl | hz'
    · exact hny hzl
    · obtain ⟨l1, l2, hl⟩ := List.append_of_mem hx
      have hL : L = (pre.reverse ++ y :: l1) ++ x :: l2 := by rw [S.split, hr, hl]; simp
      have hzm : z ∈ l1 ∨ z = x ∨ z ∈ l2 := by rw [hl] at hz'; simpa using hz'
      have hP := hD.pair
      rw [hL, List.pairwise_append, List.pairwise_cons] at hP
      rcases hzm with hz1 | rfl | hz2
      · rcases hD.chain _ x l2 hL hc3 with hch | hch
        · exact hny (S.ready hD ho hd (hch y (by simp) hy2))
        · exact hch z (by simp [hz1]) (S.restD z hz hzl) t hzd ht
      · exact hn hzl
      · have hk : Okp x z := hP.2.1.1 z hz2
        by_cases hw : Wt z x.1
        · exact hn (S.waits hD (S.memR hz) hzl hw)
        · exact ((hk.un hw).2.1 t hzd).1 ht
end
end Go.Proofs.YtiekoeapmhhjbaaGreatDoor.X
/- The interpreter is sound, part QG: what the interpreter does ahead, in a drawn region. -/
namespace Go.Proofs.YtiekoeapmhhjbaaGreatDoor.X
open Go Go.RowKit
set_option linter.unusedVariables false
set_option linter.unusedSimpArgs false
variable {c : Ctx} {Γ Γ' : Gm} {m m' : M} {w w' : World} {e e' : En} {a : Act} {ds : List Nat} {sz : Nat}
theorem put_y {dst : Option Tmp} {v : V} {K : En → A} (hy : Yes ((cPut dst).f sz v e K)) : ∃ e2, Yes (K e2) ∧ (∀ t, dst ≠ some t → gE t e2 = gE t e) ∧ ∀ d, dst = some d → d < sz ∧ (gE d e2 = v ∨ gE d e2 = .any) := by
  cases dst with
  | none => exact ⟨e, hy, fun t _ => rfl, fun d hd => by cases hd⟩
  | some d =>
    obtain ⟨h1, h2⟩ := yes_bi hy
    rw [Nat.blt_eq] at h1
    refine ⟨_, h2, fun t ht => gE_ne (fun he => ht (by rw [he])), fun d' hd => ?_⟩
    cases hd
    exact ⟨h1, gE_same _ _ _⟩
theorem inv_after {h : Hk} {X : Ex} {ops : Array Oper} {y : It} {oy : Oper} (hoy : ItOK ops y oy) (hcy : y.2.cls ≤ 1) (hI : Inv ops sz e m oy) {e2 : En} {m2 : M} (hg : ∀ t, Us y t ∨ Ds y t → gE t e2 = gE t e)
    (hrd : y.2.cls = 1 → ∃ t, oy.dst = some t ∧ Yes ((cOper ops.toList oy).f h X sz e2 m2 (fun e' m' => bi (eqV 4 (gE t e2) (gE t e')) (yesA m') none))) : Inv ops sz e2 m2 oy := by
  have hcl := hoy.pure hcy
  rcases Nat.lt_or_ge 0 y.2.cls with h1 | h0
  · have hc1 : y.2.cls = 1 := by omega
    obtain ⟨t, ht, hy⟩ := hrd hc1
    rw [cOper_cG] at hy
    obtain ⟨r, hr⟩ := cG_val (ops := ops.toList) (o := oy) (by omega) e2 m2
    rw [hr] at hy
    obtain ⟨v', rfl, hy⟩ := yes_oc hy
    rw [ht] at hy
    have hy : Yes (bi (Nat.blt t sz) (bi (eqV 4 (gE t e2) (gE t (uE t v' e2))) (yesA m2) none) none) := hy
    obtain ⟨h2, hy⟩ := yes_bi hy
    obtain ⟨h3, _⟩ := yes_bi hy
    have h4 := eqV_eq 4 h3
    rw [Nat.blt_eq] at h2
    refine ⟨v', fun h X K => hr h X K, fun d hd => ?_⟩
    rw [ht] at hd
    cases hd
    refine ⟨h2, ?_⟩
    rw [h4]
    exact gE_same _ _ _
  · have hc0 : y.2.cls = 0 := by omega
    obtain ⟨v, hv, hd⟩ := hI
    refine ⟨v, fun h X K => ?_, fun d hdd => ?_⟩
    · have e1 : cG ops.toList oy h X e2 m2 K = cG ops.toList oy h X e m2 K := cG_congr (fun t ht => hg t (.inl (item_u hoy ht))) h X m2 K
      rw [e1]
      have := cG_m (ops := ops.toList) (o := oy) (by omega) e m m2 (r := some v) (fun h X K => hv h X K) h X K
      exact this
    · obtain ⟨h2, h3⟩ := hd d hdd
      rw [hg d (.inr ((item_d hoy).2 hdd))]
      exact ⟨h2, h3⟩
section
variable {h : Hk} {X : Ex} {ops : Array Oper} {L : List It} {Kf : En → M → A} {listed : Array Bool} {pre rest : List It} {p : Nat → Option Obj} {β : Nat → Nat}
theorem DSt.pass {x : It} {r : List It} (S : DSt h X ops L c sz ds Kf listed pre (x :: r) e m Γ a w p β) (hD : Dok ops L) (hc : x.2.cls ≤ 1) : ∃ e2, DSt h X ops L c sz ds Kf listed (x :: pre) r e2 m Γ a w p β := by
  have hxm := S.memR (List.mem_cons_self .. : x ∈ x :: r)
  obtain ⟨o, ho⟩ := hD.item x hxm
  have hnl : ¬ Ls listed x.1 := fun hl => by
    have := S.restD x (List.mem_cons_self ..) hl
    omega
  obtain ⟨o', ho', _, hy⟩ := cDr_spec S.yes
  have : o' = o := by
    rw [Array.getElem?_toList, ho.get] at ho'
    cases ho'
    rfl
  subst this
  have hb : Nat.ble 2 x.2.cls = false := by
    cases hb : Nat.ble 2 x.2.cls with
    | false => rfl
    | true => have := Nat.le_of_ble_eq_true hb; omega
  rw [hb] at hy
  obtain ⟨rv, hr⟩ := cG_val (ops := ops.toList) (o := o') (by have := ho.pure hc; omega) e m
  rw [hr] at hy
  obtain ⟨v, rfl, hy⟩ := yes_oc hy
  obtain ⟨e2, hy, hne, hd⟩ := put_y hy
  have hself : ∀ t, Ds x t → ¬ Us x t := by
    rcases hD.self x hxm with h2 | h2
    · omega
    · exact h2.1
  have hkeep : ∀ t, ¬ Ds x t → gE t e2 = gE t e := fun t ht => hne t (fun he => ht ((item_d ho).2 he))
  refine ⟨e2, ⟨by rw [S.split]; simp, S.siz, S.down, S.rel, S.prp, S.gl0, S.size, fun t ht => ?_, S.dfr, hy, fun y hy2 hc2 => ?_, fun y hy2 => S.restD y (List.mem_cons_of_mem _ hy2), fun y hy2 hyl oy hoy => ?_, fun y hy2 => S.early y (List.mem_cons_of_mem _ hy2),
    fun y hy2 z hz => S.inj y (List.mem_cons_of_mem _ hy2) z (List.mem_cons_of_mem _ hz)⟩⟩
  · have h1 : ¬ Ds x t := fun hdx => ht (.inl ⟨x, List.mem_cons_self .., hnl, hdx⟩)
    rw [hkeep t h1]
    refine S.at_ t fun hE => ht ?_
    rcases hE with ⟨y, hy2, hyl, hyd⟩ | ⟨y, hy2, hyl, hyd⟩
    · exact .inl ⟨y, List.mem_cons_of_mem _ hy2, hyl, hyd⟩
    · rcases List.mem_cons.1 hy2 with rfl | hy2
      · exact absurd hyl hnl
      · exact .inr ⟨y, hy2, hyl, hyd⟩
  · rcases List.mem_cons.1 hy2 with rfl | hy2
    · omega
    · exact S.preD y hy2 hc2
  · rcases List.mem_cons.1 hy2 with rfl | hy2
    · rw [ho.get] at hoy
      cases hoy
      refine ⟨v, fun h X K => ?_, hd⟩
      have e1 : cG ops.toList o' h X e2 m K = cG ops.toList o' h X e m K := cG_congr (fun t ht => hkeep t (fun hdx => hself t hdx (item_u ho ht))) h X m K
      rw [e1, hr]
      rfl
    · obtain ⟨oy', hoy'⟩ := hD.item y (S.memP hy2)
      rw [hoy'.get] at hoy
      cases hoy
      have hk := S.cross hD hy2 (List.mem_cons_self .. : x ∈ x :: r)
      have hdis : ∀ t, Ds x t → ¬ Us y t ∧ ¬ Ds y t := by
        by_cases hw : Wt x y.1
        · rcases hk.ord hw with h2 | h2
          · omega
          · exact h2
        · exact (hk.un hw).2.1
      obtain ⟨v', hv', hd'⟩ := S.late y hy2 hyl oy hoy'.get
      refine ⟨v', fun h X K => ?_, fun d hdd => ?_⟩
      · have e1 : cG ops.toList oy h X e2 m K = cG ops.toList oy h X e m K := cG_congr (fun t ht => hkeep t (fun hdx => (hdis t hdx).1 (item_u hoy' ht))) h X m K
        rw [e1, hv']
      · rw [hkeep d (fun hdx => (hdis d hdx).2 ((item_d hoy').2 hdd))]
        exact hd' d hdd
/-- What follows where the memory, too, has turned: what waits to come up yields what it yielded. -/
theorem DSt.lates {x : It} {r : List It} (S : DSt h X ops L c sz ds Kf listed pre (x :: r) e m Γ a w p β) (hD : Dok ops L) (hcx : 2 ≤ x.2.cls) {listed' : Array Bool} (hls : ∀ i, Ls listed i → Ls listed' i) (hwx : ∀ j, Wt x j → Ls listed j) {o : Oper} (ho : ItOK ops x o) {e2 : En} {m2 : M} (hkeep : ∀ t, ¬ Ds x t → gE t e2 = gE t e)
    (hrc : ∀ y ∈ readsF x pre, ∃ o t, ops.toList[y.1]? = some o ∧ o.dst = some t ∧ Yes ((cOper ops.toList o).f h X sz e2 m2 (fun e' m' => bi (eqV 4 (gE t e2) (gE t e')) (yesA m') none))) : ∀ y ∈ pre, ¬ Ls listed' y.1 → ∀ oy, ops[y.1]? = some oy → Inv ops sz e2 m2 oy := by
  intro y hy hyl oy hoy
  obtain ⟨oy', hoy'⟩ := hD.item y (S.memP hy)
  rw [hoy'.get] at hoy
  cases hoy
  have hyl' : ¬ Ls listed y.1 := fun hl => hyl (hls _ hl)
  have hcy : y.2.cls ≤ 1 := Nat.le_of_not_lt fun hlt => hyl' (S.preD y hy hlt)
  have hk := S.cross hD hy (List.mem_cons_self .. : x ∈ x :: r)
  have hw : ¬ Wt x y.1 := fun hw => hyl' (hwx _ hw)
  have hdis := (hk.un hw).2.1
  refine inv_after (h := h) (X := X) hoy' hcy (S.late y hy hyl' oy hoy'.get) (fun t ht => hkeep t fun hdx => ?_) (fun hc1 => ?_)
  · rcases ht with ht | ht
    · exact (hdis t hdx).1 ht
    · exact (hdis t hdx).2 ht
  · obtain ⟨o', t, h1, h2, h3⟩ := hrc y (readsF_mem hy hc1 hw)
    rw [Array.getElem?_toList, hoy'.get] at h1
    cases h1
    exact ⟨t, h2, h3⟩
theorem alloc_inj {w : World} {o o' : Obj} (h : w.alloc o = w.alloc o') : o = o' := by
  have h1 : (w.alloc o).heap[w.heap.size]? = (w.alloc o').heap[w.heap.size]? := by rw [h]
  rw [World.alloc_heap_new, World.alloc_heap_new] at h1
  cases h1
  rfl
theorem DSt.bind {z : It} {r : List It} (S : DSt h X ops L c sz ds Kf listed pre (z :: r) e m Γ a w p β) (hD : Dok ops L) (hl : Ls listed z.1) : ∃ e2 m2 Γ2 p2, LeG Γ Γ2 ∧ DSt h X ops L c sz ds Kf listed (z :: pre) r e2 m2 Γ2 a w p2 β := by
  have hz0 : z ∈ z :: r := List.mem_cons_self ..
  have hzm := S.memR hz0
  obtain ⟨o, ho⟩ := hD.item z hzm
  have hc3 := S.restD z hz0 hl
  have hself : ∀ t, Ds z t → ¬ Us z t := by
    rcases hD.self z hzm with h2 | h2
    · omega
    · exact h2.1
  obtain ⟨o', ho', _, hy⟩ := cDr_spec S.yes
  have : o' = o := by
    rw [Array.getElem?_toList, ho.get] at ho'
    cases ho'
    rfl
  subst this
  have hb : Nat.ble 2 z.2.cls = true := Nat.ble_eq_true_of_le (by omega)
  rw [hb] at hy
  obtain ⟨e', ha', he'⟩ := S.hasE hD (o := o') (fun t ht => S.key2 hD ho rfl (S.down z.1 o' ho.get hl) (fun _ => hself) (item_u ho ht))
  have hrow := row_gen (c := prC c p) (ho.row hc3) (h := h) (X := X) ha' S.rel he' hy
  obtain ⟨d, hd, hrec⟩ := S.early z hz0 hl o' ho.get
  -- what is common
  have common : ∀ (v : V) (m2 : M) (Γ2 : Gm) (p2 : Nat → Option Obj), LeG Γ Γ2 → Rel (prC c p2) Γ2 m2 w → (∀ q o, c.pr q = some o → p2 q = some o) → DV c.ν Γ2 v (a.tmps.getD d undef) →
      (∀ y ∈ r, Ls listed y.1 → ∀ oy, ops[y.1]? = some oy → Rec1 c ops oy a p2 (β y.1)) →
      Yes ((cPut o'.dst).f sz v e (fun e => (bi true (recheck ops.toList (readsF z pre)) idO).f h X sz e m2 (fun e m => (cDr ops.toList r (z :: pre)).f h X sz e m Kf))) →
      ∃ e2, DSt h X ops L c sz ds Kf listed (z :: pre) r e2 m2 Γ2 a w p2 β := by
    intro v m2 Γ2 p2 hl2 hR2 hp2 hv hear hy
    obtain ⟨e2, hy, hne, hde⟩ := put_y hy
    have hy : Yes ((recheck ops.toList (readsF z pre)).f h X sz e2 m2 (fun e m => (cDr ops.toList r (z :: pre)).f h X sz e m Kf)) := hy
    obtain ⟨hy, hrc⟩ := recheck_spec hy
    have hkeep : ∀ t, ¬ Ds z t → gE t e2 = gE t e := fun t ht => hne t (fun he => ht ((item_d ho).2 he))
    obtain ⟨lD, hlD, hM⟩ := S.dfr
    refine ⟨e2, ⟨by rw [S.split]; simp, S.siz, S.down, hR2, hp2, S.gl0, S.size, fun t ht => ?_, ⟨lD, hlD, hM.mono hl2⟩, hy, fun y hy2 hc2 => ?_, fun y hy2 => S.restD y (List.mem_cons_of_mem _ hy2), fun y hy2 hyl oy hoy => ?_, hear,
      fun y hy2 u hu => S.inj y (List.mem_cons_of_mem _ hy2) u (List.mem_cons_of_mem _ hu)⟩⟩
    · by_cases hdz : Ds z t
      · have : t = d := by
          rw [item_d ho, hd] at hdz
          cases hdz
          rfl
        subst this
        rcases (hde t hd).2 with h1 | h1
        · rw [h1]; exact hv
        · rw [h1, DV]; trivial
      · rw [hkeep t hdz]
        refine (S.at_ t fun hE => ht ?_).mono hl2
        rcases hE with ⟨y, hy2, hyl, hyd⟩ | ⟨y, hy2, hyl, hyd⟩
        · exact .inl ⟨y, List.mem_cons_of_mem _ hy2, hyl, hyd⟩
        · rcases List.mem_cons.1 hy2 with rfl | hy2
          · exact absurd hyd hdz
          · exact .inr ⟨y, hy2, hyl, hyd⟩
    · rcases List.mem_cons.1 hy2 with rfl | hy2
      · exact hl
      · exact S.preD y hy2 hc2
    · rcases List.mem_cons.1 hy2 with rfl | hy2
      · exact absurd hl hyl
      · exact S.lates hD (by omega) (fun i hi => hi) (fun j hj => S.waits hD hzm hl hj) ho hkeep hrc y hy2 hyl oy hoy
  rcases hrow with ⟨hw, hyK⟩ | ⟨hw, D, Sy, n, t, v, Xf, hDs, hcells, hyK, hrun, hdv⟩
  · rcases hrec with ⟨hw', _⟩ | ⟨_, hu⟩
    · rw [hw] at hw'; cases hw'
    · obtain ⟨e2, hS⟩ := common (.tup []) m Γ p (LeG.refl _) S.rel S.prp (by rw [hu]; exact DV.undef) (fun y hy2 => S.early y (List.mem_cons_of_mem _ hy2)) hyK
      exact ⟨e2, m, Γ, p, LeG.refl _, hS⟩
  · rcases hrec with h1 | ⟨hw', _⟩
    · obtain ⟨_, obj, w1, hsz1, hrun1, hpb, hcb⟩ := h1
      have h2 := hrun w1
      rw [hrun1] at h2
      injection h2 with h3 h4
      injection h3 with h3
      have hobj := alloc_inj h4
      subst hobj
      rw [hsz1] at h3
      obtain ⟨hb1, hb2⟩ := S.rel.prot (β z.1) _ hpb
      obtain ⟨p2, hp2⟩ : ∃ p2 : Nat → Option Obj, p2 = fun q => if q = β z.1 then none else p q := ⟨_, rfl⟩
      have hpe : ∀ q, q ≠ β z.1 → p2 q = p q := fun q hq => by rw [hp2]; exact if_neg hq
      have hpn : p2 (β z.1) = none := by rw [hp2]; exact if_pos rfl
      have hR2 : Rel (prC c p2) Γ m w := S.rel.weak (p := p2) (fun q o hq => by
        by_cases hqb : q = β z.1
        · rw [hqb, hpn] at hq; cases hq
        · rw [hpe q hqb] at hq; exact hq) (fun g hg => hpe g (fun he => by
        obtain ⟨o, ho⟩ := S.gl0 g hg
        rw [he, hcb] at ho
        cases ho))
      have hR3 := Rel.bind hR2 hb1 hDs hcells hb2 (fun q o hq hbq => by
        have hq : p2 q = some o := hq
        rw [← hbq, hpn] at hq
        cases hq)
      obtain ⟨e2, hS⟩ := common v _ _ p2 (LeG.add S.rel.fresh _) hR3 (fun q o hq => by
        rw [hpe q (fun hqb => by rw [hqb, hcb] at hq; cases hq)]
        exact S.prp q o hq) (by rw [h3]; exact hdv _ _ (addG_same _ _ _)) (fun y hy2 hyl oy hoy => by
          have hy0 : y ∈ z :: r := List.mem_cons_of_mem _ hy2
          obtain ⟨d', hd', hrec'⟩ := S.early y hy0 hyl oy hoy
          refine ⟨d', hd', ?_⟩
          rcases hrec' with ⟨hwy, obj', w1', k1, k2, k3, k4⟩ | hrec'
          · have hne : β y.1 ≠ β z.1 := by
              have hk := S.restP hD
              rw [List.pairwise_cons] at hk
              exact S.inj y hy0 z hz0 hyl hl (Ne.symm (hk.1 y hy2).ne) oy o' hoy ho.get hwy hw
            exact .inl ⟨hwy, obj', w1', k1, k2, by rw [hpe _ hne]; exact k3, k4⟩
          · exact .inr hrec') hyK
      exact ⟨e2, _, _, p2, LeG.add S.rel.fresh _, hS⟩
    · rw [hw] at hw'; cases hw'
/-- The interpreter does what it can ahead. -/
theorem DSt.norm (hD : Dok ops L) : ∀ (rest pre : List It) {e : En} {m : M} {Γ : Gm} {p : Nat → Option Obj}, DSt h X ops L c sz ds Kf listed pre rest e m Γ a w p β → ∃ pre2 rest2 e2 m2 Γ2 p2, LeG Γ Γ2 ∧ DSt h X ops L c sz ds Kf listed pre2 rest2 e2 m2 Γ2 a w p2 β ∧ (rest2 = [] ∨ ∃ y r, rest2 = y :: r ∧ 2 ≤ y.2.cls ∧ ¬ Ls listed y.1)
  | [], pre, e, m, Γ, p, S => ⟨pre, [], e, m, Γ, p, LeG.refl _, S, .inl rfl⟩
  | x :: r, pre, e, m, Γ, p, S => by
    by_cases hl : Ls listed x.1
    · obtain ⟨e2, m2, Γ2, p2, hl2, S2⟩ := S.bind hD hl
      obtain ⟨pre3, rest3, e3, m3, Γ3, p3, hl3, S3, h3⟩ := DSt.norm hD r (x :: pre) S2
      exact ⟨pre3, rest3, e3, m3, Γ3, p3, hl2.trans hl3, S3, h3⟩
    · by_cases hc : x.2.cls ≤ 1
      · obtain ⟨e2, S2⟩ := S.pass hD hc
        exact DSt.norm hD r (x :: pre) S2
      · exact ⟨pre, x :: r, e, m, Γ, p, LeG.refl _, S, .inr ⟨x, r, rfl, by omega, hl⟩⟩
end
end Go.Proofs.YtiekoeapmhhjbaaGreatDoor.X
/- The interpreter is sound, part QH: what comes up, in a drawn region. -/
namespace Go.Proofs.YtiekoeapmhhjbaaGreatDoor.X
open Go Go.RowKit
set_option linter.unusedVariables false
set_option linter.unusedSimpArgs false
variable {c : Ctx} {Γ Γ' : Gm} {m m' : M} {w w' : World} {e e' : En} {a : Act} {ds : List Nat} {sz : Nat}
theorem looksAt_looks {ops : Array Oper} {o : Oper} {t : Nat} (h : t ∈ o.looksAt ops) : Looks ops o t := by
  unfold Oper.looksAt at h
  rcases List.mem_append.1 h with h | h
  · obtain ⟨x, hx, he⟩ := List.mem_filterMap.1 h
    cases x with
    | tmp t' =>
      cases he
      exact .inl (by simpa using hx)
    | _ => cases he
  · right
    cases hg : o.guard with
    | none => rw [hg] at h; cases h
    | some g =>
      obtain ⟨g1, g2⟩ := g
      rw [hg] at h
      have h' : t ∈ ((ops[g1]?).bind (·.dst)).toList := h
      refine ⟨(g1, g2), rfl, ?_⟩
      unfold guardT
      rw [ob_eq]
      dsimp only
      cases ho : ops[g1]? with
      | none => rw [ho] at h'; cases h'
      | some o2 =>
        rw [ho] at h'
        refine ⟨o2, by rw [Array.getElem?_toList]; exact ho, ?_⟩
        simpa using h'
theorem put_get {dst : Option Tmp} {x : Value} {t : Nat} (h : dst ≠ some t) : (a.put dst x).tmps.getD t undef = a.tmps.getD t undef := by
  cases dst with
  | none => rfl
  | some d =>
    have hne : d ≠ t := fun he => h (by rw [he])
    show (a.tmps.setIfInBounds d x).getD t undef = _
    rw [Array.getD_eq_getD_getElem?, Array.getElem?_setIfInBounds_ne hne, ← Array.getD_eq_getD_getElem?]
theorem put_same {x : Value} {t : Nat} (h : t < a.tmps.size) : (a.put (some t) x).tmps.getD t undef = x := by
  show (a.tmps.setIfInBounds t x).getD t undef = x
  rw [Array.getD_eq_getD_getElem?, Array.getElem?_setIfInBounds_self_of_lt h]
  rfl
theorem put_size {dst : Option Tmp} {x : Value} : (a.put dst x).tmps.size = a.tmps.size := by
  cases dst <;> simp [Act.put]
theorem put_dfr {dst : Option Tmp} {x : Value} : (a.put dst x).defers = a.defers := by
  cases dst <;> rfl
theorem cls_sel {o : Oper} (h : clsO o.op = 3) : ∀ cs b, o.op ≠ .select cs b := fun cs b he => by
  rw [he] at h
  exact absurd (show (2 : Nat) = 3 from h) (by decide)
section
variable {h : Hk} {X : Ex} {ops : Array Oper} {L : List It} {Kf : En → M → A} {listed : Array Bool} {pre rest : List It} {p : Nat → Option Obj} {β : Nat → Nat}
theorem want_put {oy : Oper} {dst : Option Tmp} (hd : ∀ t, dst = some t → ¬ Looks ops oy t) (x : Value) : Region.wanted oy (yielded ops (a.put dst x).tmps) = Region.wanted oy (yielded ops a.tmps) :=
  wanted_put oy a dst x fun d hdd hm => hd d hdd (looksAt_looks hm)
theorem rec_put {oy : Oper} {dst : Option Tmp} {b : Nat} (hs : ∀ cs b, oy.op ≠ .select cs b) (hd : ∀ t, dst = some t → ¬ Looks ops oy t ∧ oy.dst ≠ some t) (x : Value) (hr : Rec1 c ops oy a p b) : Rec1 c ops oy (a.put dst x) p b := by
  obtain ⟨d, hdd, hr⟩ := hr
  have h1 := want_put (a := a) (ops := ops) (oy := oy) (dst := dst) (fun t ht => (hd t ht).1) x
  have h2 : (a.put dst x).tmps.getD d undef = a.tmps.getD d undef := put_get fun he => (hd d he).2 hdd
  have h3 : execOp (a.put dst x).eval oy = execOp a.eval oy := execOp_put (ops := ops) oy hs a dst x fun t ht hm => (hd t ht).1 (looksAt_looks hm)
  refine ⟨d, hdd, ?_⟩
  rw [h1, h2, h3]
  exact hr
theorem ls_i {x : It} {o : Oper} (S : DSt h X ops L c sz ds Kf listed pre rest e m Γ a w p β) (ho : ItOK ops x o) : x.1 < listed.size := by
  rw [S.siz]
  exact (Array.getElem?_eq_some_iff.1 ho.get).1
theorem DSt.down' {x : It} {o : Oper} (S : DSt h X ops L c sz ds Kf listed pre rest e m Γ a w p β) (ho : ItOK ops x o) (hd : ∀ j ∈ depsO o, Ls listed j) : ∀ (i : Nat) (oi : Oper), ops[i]? = some oi → Ls (listed.setIfInBounds x.1 true) i → ∀ j ∈ depsO oi, Ls (listed.setIfInBounds x.1 true) j := by
  intro i oi hi hl j hj
  rw [Ls_set (ls_i S ho)] at hl ⊢
  rcases hl with hl | rfl
  · exact .inl (S.down i oi hi hl j hj)
  · rw [ho.get] at hi
    cases hi
    exact .inl (hd j hj)
theorem DSt.execLate (hF : Facts) (hh : HkOK h) {n : Nat} (hX : Snd n X) (rdp : Option Nat) (S : DSt h X ops L c sz ds Kf listed pre rest e m Γ a w p β) (hD : Dok ops L) {x : It} {o : Oper} (ho : ItOK ops x o) (hx : x ∈ pre) (hn : ¬ Ls listed x.1) (hd : ∀ j ∈ depsO o, Ls listed j)
    {next : Act → World → Prop} {Q : Exit → Act → World → Prop} (hnext : ∀ Γ2 a2 w2, LeG Γ Γ2 → DSt h X ops L c sz ds Kf (listed.setIfInBounds x.1 true) pre rest e m Γ2 a2 w2 p β → next a2 w2) : Step1 rdp ops o next Q a w := by
  classical
  obtain ⟨v, hv, hdst⟩ := S.late x hx hn o ho.get
  obtain ⟨e', ha', he'⟩ := S.hasE hD (o := o) (fun t ht => S.key1 hD ho hx hn hd (item_u ho ht))
  have hy : Yes (cG ops.toList o h X e m (fun v' m' => if v' = v ∧ m' = m then yesA m else none)) := by
    rw [hv]
    rw [if_pos ⟨rfl, rfl⟩]
    exact ⟨_, rfl⟩
  refine oper_gen (c := prC c p) hF hh hX rdp S.rel ha' he' hy ?_
  intro v' m' Γ2 x' w2 hl2 hR2 hv2 hK
  have hvm : v' = v ∧ m' = m := by
    by_cases hvm : v' = v ∧ m' = m
    · exact hvm
    · have hK : Yes (if v' = v ∧ m' = m then yesA m else none) := hK
      rw [if_neg hvm] at hK
      exact (yes_none hK).elim
  obtain ⟨rfl, rfl⟩ := hvm
  have hls : ∀ i, Ls (listed.setIfInBounds x.1 true) i ↔ Ls listed i ∨ i = x.1 := fun i => Ls_set (ls_i S ho)
  have hrs : ∀ y ∈ rest, Ls (listed.setIfInBounds x.1 true) y.1 → Ls listed y.1 := fun y hy hl => by
    rcases (hls y.1).1 hl with hl | hl
    · exact hl
    · exact absurd hl.symm (S.cross hD hx hy).ne
  have hdis : ∀ y ∈ rest, Ls listed y.1 → ∀ t, Ds x t → ¬ Us y t ∧ ¬ Ds y t := fun y hy hl t ht => by
    have hk := S.cross hD hx hy
    by_cases hw : Wt y x.1
    · exact absurd (S.waits hD (S.memR hy) hl hw) hn
    · exact ⟨(hk.un hw).2.2 t ht, fun hdy => ((hk.un hw).2.1 t hdy).2 ht⟩
  have hdo : ∀ y ∈ rest, Ls listed y.1 → ∀ oy, ItOK ops y oy → ∀ t, o.dst = some t → ¬ Looks ops oy t ∧ oy.dst ≠ some t := fun y hy hl oy hoy t ht => by
    obtain ⟨h1, h2⟩ := hdis y hy hl t ((item_d ho).2 ht)
    exact ⟨fun hk => h1 (item_u hoy hk), fun hk => h2 ((item_d hoy).2 hk)⟩
  obtain ⟨lD, hlD, hM⟩ := S.dfr
  refine hnext Γ2 (a.put o.dst x') w2 hl2 ⟨S.split, by simp [S.siz], S.down' ho hd, hR2, S.prp, S.gl0, by rw [put_size]; exact S.size, fun t ht => ?_, ⟨lD, by rw [put_dfr]; exact hlD, hM.mono hl2⟩, S.yes, fun y hy hc => (hls _).2 (.inl (S.preD y hy hc)), fun y hy hl => S.restD y hy (hrs y hy hl),
    fun y hy hl => S.late y hy fun hl' => hl ((hls _).2 (.inl hl')), fun y hy hl oy hoy => ?_, fun y hy z hz hyl hzl hne oy oz hoy hoz hwy hwz => ?_⟩
  · by_cases hdt : o.dst = some t
    · obtain ⟨h1, h2⟩ := hdst t hdt
      rw [hdt, put_same (by rw [S.size]; exact h1)]
      rcases h2 with h2 | h2
      · rw [h2]; exact hv2
      · rw [h2, DV]; trivial
    · rw [put_get hdt]
      refine (S.at_ t fun hE => ht ?_).mono hl2
      rcases hE with ⟨y, hy, hyl, hyd⟩ | ⟨y, hy, hyl, hyd⟩
      · refine .inl ⟨y, hy, fun hl => ?_, hyd⟩
        rcases (hls y.1).1 hl with hl | hl
        · exact hyl hl
        · have := pw_uniq hD.pair (S.memP hy) (S.memP hx) hl
          subst this
          exact hdt ((item_d ho).1 hyd)
      · exact .inr ⟨y, hy, (hls _).2 (.inl hyl), hyd⟩
  · obtain ⟨oy', hoy'⟩ := hD.item y (S.memR hy)
    rw [hoy'.get] at hoy
    cases hoy
    have hl' := hrs y hy hl
    exact rec_put (cls_sel (hoy'.row (S.restD y hy hl'))) (hdo y hy hl' oy hoy') x' (S.early y hy hl' oy hoy'.get)
  · obtain ⟨oy', hoy'⟩ := hD.item y (S.memR hy)
    rw [hoy'.get] at hoy
    cases hoy
    obtain ⟨oz', hoz'⟩ := hD.item z (S.memR hz)
    rw [hoz'.get] at hoz
    cases hoz
    rw [want_put (fun t ht => (hdo y hy (hrs y hy hyl) oy hoy' t ht).1)] at hwy
    rw [want_put (fun t ht => (hdo z hz (hrs z hz hzl) oz hoz' t ht).1)] at hwz
    exact S.inj y hy z hz (hrs y hy hyl) (hrs z hz hzl) hne oy oz hoy'.get hoz'.get hwy hwz
theorem DSt.execHead (hF : Facts) (hh : HkOK h) {n : Nat} (hX : Snd n X) (rdp : Option Nat) {x : It} {r : List It} (S : DSt h X ops L c sz ds Kf listed pre (x :: r) e m Γ a w p β) (hD : Dok ops L) {o : Oper} (ho : ItOK ops x o) (hc2 : x.2.cls = 2) (hn : ¬ Ls listed x.1) (hd : ∀ j ∈ depsO o, Ls listed j)
    {next : Act → World → Prop} {Q : Exit → Act → World → Prop} (hnext : ∀ e2 m2 Γ2 a2 w2, LeG Γ Γ2 → DSt h X ops L c sz ds Kf (listed.setIfInBounds x.1 true) (x :: pre) r e2 m2 Γ2 a2 w2 p β → next a2 w2) : Step1 rdp ops o next Q a w := by
  have hx0 : x ∈ x :: r := List.mem_cons_self ..
  obtain ⟨o', ho', _, hy⟩ := cDr_spec S.yes
  have : o' = o := by
    rw [Array.getElem?_toList, ho.get] at ho'
    cases ho'
    rfl
  subst this
  have hb : Nat.ble 2 x.2.cls = true := Nat.ble_eq_true_of_le (by omega)
  rw [hb] at hy
  obtain ⟨e', ha', he'⟩ := S.hasE hD (o := o') (fun t ht => S.key2 hD ho rfl hd (fun hl => absurd hl hn) (item_u ho ht))
  refine oper_gen (c := prC c p) hF hh hX rdp S.rel ha' he' hy ?_
  intro v m2 Γ2 x' w2 hl2 hR2 hv2 hK
  obtain ⟨e2, hK, hne, hde⟩ := put_y hK
  have hK : Yes ((recheck ops.toList (readsF x pre)).f h X sz e2 m2 (fun e m => (cDr ops.toList r (x :: pre)).f h X sz e m Kf)) := hK
  obtain ⟨hK, hrc⟩ := recheck_spec hK
  have hkeep : ∀ t, ¬ Ds x t → gE t e2 = gE t e := fun t ht => hne t (fun he => ht ((item_d ho).2 he))
  have hls : ∀ i, Ls (listed.setIfInBounds x.1 true) i ↔ Ls listed i ∨ i = x.1 := fun i => Ls_set (ls_i S ho)
  have hxr : ∀ y ∈ r, Okp x y := by
    have := S.restP hD
    rw [List.pairwise_cons] at this
    exact this.1
  have hrs : ∀ y ∈ r, Ls (listed.setIfInBounds x.1 true) y.1 → Ls listed y.1 := fun y hy hl => by
    rcases (hls y.1).1 hl with hl | hl
    · exact hl
    · exact absurd hl.symm (hxr y hy).ne
  have hdis : ∀ y ∈ r, Ls listed y.1 → ∀ t, Ds x t → ¬ Us y t ∧ ¬ Ds y t := fun y hy hl t ht => by
    have hk := hxr y hy
    by_cases hw : Wt y x.1
    · exact absurd (S.waits hD (S.memR (List.mem_cons_of_mem _ hy)) hl hw) hn
    · exact ⟨(hk.un hw).2.2 t ht, fun hdy => ((hk.un hw).2.1 t hdy).2 ht⟩
  have hdo : ∀ y ∈ r, Ls listed y.1 → ∀ oy, ItOK ops y oy → ∀ t, o'.dst = some t → ¬ Looks ops oy t ∧ oy.dst ≠ some t := fun y hy hl oy hoy t ht => by
    obtain ⟨h1, h2⟩ := hdis y hy hl t ((item_d ho).2 ht)
    exact ⟨fun hk => h1 (item_u hoy hk), fun hk => h2 ((item_d hoy).2 hk)⟩
  obtain ⟨lD, hlD, hM⟩ := S.dfr
  refine hnext e2 m2 Γ2 (a.put o'.dst x') w2 hl2 ⟨by rw [S.split]; simp, by simp [S.siz], S.down' ho hd, hR2, S.prp, S.gl0, by rw [put_size]; exact S.size, fun t ht => ?_, ⟨lD, by rw [put_dfr]; exact hlD, hM.mono hl2⟩, hK, fun y hy hc => ?_, fun y hy hl => S.restD y (List.mem_cons_of_mem _ hy) (hrs y hy hl),
    fun y hy hl oy hoy => ?_, fun y hy hl oy hoy => ?_, fun y hy z hz hyl hzl hne oy oz hoy hoz hwy hwz => ?_⟩
  · by_cases hdt : o'.dst = some t
    · obtain ⟨h1, h2⟩ := hde t hdt
      rw [hdt, put_same (by rw [S.size]; exact h1)]
      rcases h2 with h2 | h2
      · rw [h2]; exact hv2
      · rw [h2, DV]; trivial
    · rw [put_get hdt, hne t hdt]
      refine (S.at_ t fun hE => ht ?_).mono hl2
      rcases hE with ⟨y, hy, hyl, hyd⟩ | ⟨y, hy, hyl, hyd⟩
      · refine .inl ⟨y, List.mem_cons_of_mem _ hy, fun hl => ?_, hyd⟩
        rcases (hls y.1).1 hl with hl | hl
        · exact hyl hl
        · exact absurd hl (S.cross hD hy hx0).ne
      · rcases List.mem_cons.1 hy with rfl | hy
        · exact absurd hyl hn
        · exact .inr ⟨y, hy, (hls _).2 (.inl hyl), hyd⟩
  · rcases List.mem_cons.1 hy with rfl | hy
    · exact (hls _).2 (.inr rfl)
    · exact (hls _).2 (.inl (S.preD y hy hc))
  · rcases List.mem_cons.1 hy with rfl | hy
    · exact absurd ((hls _).2 (.inr rfl)) hl
    · exact S.lates hD (by omega) (fun i hi => (hls i).2 (.inl hi)) (fun j hj => S.ready hD ho hd hj) ho hkeep hrc y hy hl oy hoy
  · have hy0 := List.mem_cons_of_mem x hy
    obtain ⟨oy', hoy'⟩ := hD.item y (S.memR hy0)
    rw [hoy'.get] at hoy
    cases hoy
    have hl' := hrs y hy hl
    exact rec_put (cls_sel (hoy'.row (S.restD y hy0 hl'))) (hdo y hy hl' oy hoy') x' (S.early y hy0 hl' oy hoy'.get)
  · have hy0 := List.mem_cons_of_mem x hy
    have hz0 := List.mem_cons_of_mem x hz
    obtain ⟨oy', hoy'⟩ := hD.item y (S.memR hy0)
    rw [hoy'.get] at hoy
    cases hoy
    obtain ⟨oz', hoz'⟩ := hD.item z (S.memR hz0)
    rw [hoz'.get] at hoz
    cases hoz
    rw [want_put (fun t ht => (hdo y hy (hrs y hy hyl) oy hoy' t ht).1)] at hwy
    rw [want_put (fun t ht => (hdo z hz (hrs z hz hzl) oz hoz' t ht).1)] at hwz
    exact S.inj y hy0 z hz0 (hrs y hy hyl) (hrs z hz hzl) hne oy oz hoy'.get hoz'.get hwy hwz
end
end Go.Proofs.YtiekoeapmhhjbaaGreatDoor.X
/- The interpreter is sound, part QI: a drawn region, whole. -/
namespace Go.Proofs.YtiekoeapmhhjbaaGreatDoor.X
open Go Go.RowKit
set_option linter.unusedVariables false
set_option linter.unusedSimpArgs false
variable {c : Ctx} {Γ Γ' : Gm} {m m' : M} {w w' : World} {e e' : En} {a : Act} {ds : List Nat} {sz : Nat}
section
variable {h : Hk} {X : Ex} {ops : Array Oper} {L : List It} {Kf : En → M → A} {listed : Array Bool} {pre rest : List It} {p : Nat → Option Obj} {β : Nat → Nat}
/-- What is the same, whether the row is wanted or not. -/
theorem DSt.rowIn (S : DSt h X ops L c sz ds Kf listed pre rest e m Γ a w p β) (hD : Dok ops L) {x : It} {o : Oper} (ho : ItOK ops x o) (hx : x ∈ rest) (hc3 : x.2.cls = 3) (hn : ¬ Ls listed x.1) (hd : ∀ j ∈ depsO o, Ls listed j) {x' : Value} {w2 : World} {p2 : Nat → Option Obj} {β2 : Nat → Nat}
    (hR2 : Rel (prC c p2) Γ m w2) (hp2 : ∀ q o, c.pr q = some o → p2 q = some o) (hrx : Rec1 c ops o (a.put o.dst x') p2 (β2 x.1)) (hother : ∀ y ∈ rest, Ls listed y.1 → ∀ oy, ops[y.1]? = some oy → Rec1 c ops oy a p (β y.1) → Rec1 c ops oy a p2 (β2 y.1)) (hβ : ∀ i, i ≠ x.1 → β2 i = β i)
    (hfr : ∀ y ∈ rest, Ls listed y.1 → ∀ oy, ops[y.1]? = some oy → Region.wanted o (yielded ops (a.put o.dst x').tmps) = true → Region.wanted oy (yielded ops a.tmps) = true → β y.1 ≠ β2 x.1) :
    DSt h X ops L c sz ds Kf (listed.setIfInBounds x.1 true) pre rest e m Γ (a.put o.dst x') w2 p2 β2 := by
  have hls : ∀ i, Ls (listed.setIfInBounds x.1 true) i ↔ Ls listed i ∨ i = x.1 := fun i => Ls_set (ls_i S ho)
  have hxm := S.memR hx
  have hxe : ∀ y ∈ rest, y.1 = x.1 → y = x := fun y hy he => pw_uniq hD.pair (S.memR hy) hxm he
  have hdis : ∀ y ∈ rest, Ls listed y.1 → ∀ t, Ds x t → ¬ Us y t ∧ ¬ Ds y t := fun y hy hl t ht => by
    rcases pw_or hD.pair x hxm y (S.memR hy) with he | hk | hk
    · subst he
      exact absurd hl hn
    · by_cases hw : Wt y x.1
      · exact absurd (S.waits hD (S.memR hy) hl hw) hn
      · exact ⟨(hk.un hw).2.2 t ht, fun hdy => ((hk.un hw).2.1 t hdy).2 ht⟩
    · by_cases hw : Wt x y.1
      · rcases hk.ord hw with h2 | h2
        · omega
        · exact h2 t ht
      · exact (hk.un hw).2.1 t ht
  have hdo : ∀ y ∈ rest, Ls listed y.1 → ∀ oy, ItOK ops y oy → ∀ t, o.dst = some t → ¬ Looks ops oy t ∧ oy.dst ≠ some t := fun y hy hl oy hoy t ht => by
    obtain ⟨h1, h2⟩ := hdis y hy hl t ((item_d ho).2 ht)
    exact ⟨fun hk => h1 (item_u hoy hk), fun hk => h2 ((item_d hoy).2 hk)⟩
  have hwp : ∀ y ∈ rest, Ls listed y.1 → ∀ oy, ItOK ops y oy → Region.wanted oy (yielded ops (a.put o.dst x').tmps) = Region.wanted oy (yielded ops a.tmps) := fun y hy hl oy hoy => want_put (fun t ht => (hdo y hy hl oy hoy t ht).1) x'
  obtain ⟨lD, hlD, hM⟩ := S.dfr
  refine ⟨S.split, by simp [S.siz], S.down' ho hd, hR2, hp2, S.gl0, by rw [put_size]; exact S.size, fun t ht => ?_, ⟨lD, by rw [put_dfr]; exact hlD, hM⟩, S.yes, fun y hy hc => (hls _).2 (.inl (S.preD y hy hc)), fun y hy hl => ?_,
    fun y hy hl => S.late y hy fun hl' => hl ((hls _).2 (.inl hl')), fun y hy hl oy hoy => ?_, fun y hy z hz hyl hzl hne oy oz hoy hoz hwy hwz => ?_⟩
  · have hdt : o.dst ≠ some t := fun hdt => ht (.inr ⟨x, hx, (hls _).2 (.inr rfl), (item_d ho).2 hdt⟩)
    rw [put_get hdt]
    refine S.at_ t fun hE => ht ?_
    rcases hE with ⟨y, hy, hyl, hyd⟩ | ⟨y, hy, hyl, hyd⟩
    · refine .inl ⟨y, hy, fun hl => ?_, hyd⟩
      rcases (hls y.1).1 hl with hl | hl
      · exact hyl hl
      · exact absurd hl (S.cross hD hy hx).ne
    · exact .inr ⟨y, hy, (hls _).2 (.inl hyl), hyd⟩
  · rcases (hls y.1).1 hl with hl | hl
    · exact S.restD y hy hl
    · rw [hxe y hy hl]
      exact hc3
  · rcases (hls y.1).1 hl with hl | hl
    · obtain ⟨oy', hoy'⟩ := hD.item y (S.memR hy)
      rw [hoy'.get] at hoy
      cases hoy
      exact rec_put (cls_sel (hoy'.row (S.restD y hy hl))) (hdo y hy hl oy hoy') x' (hother y hy hl oy hoy'.get (S.early y hy hl oy hoy'.get))
    · have := hxe y hy hl
      subst this
      rw [ho.get] at hoy
      cases hoy
      exact hrx
  · obtain ⟨oy', hoy'⟩ := hD.item y (S.memR hy)
    rw [hoy'.get] at hoy
    cases hoy
    obtain ⟨oz', hoz'⟩ := hD.item z (S.memR hz)
    rw [hoz'.get] at hoz
    cases hoz
    rcases (hls y.1).1 hyl with ky | ky
    · rw [hwp y hy ky oy hoy'] at hwy
      have hyx : y.1 ≠ x.1 := fun he => hn (by rw [← he]; exact ky)
      rcases (hls z.1).1 hzl with kz | kz
      · rw [hwp z hz kz oz hoz'] at hwz
        have hzx : z.1 ≠ x.1 := fun he => hn (by rw [← he]; exact kz)
        rw [hβ _ hyx, hβ _ hzx]
        exact S.inj y hy z hz ky kz hne oy oz hoy'.get hoz'.get hwy hwz
      · have := hxe z hz kz
        subst this
        have : oz = o := by
          have h1 := hoz'.get
          rw [ho.get] at h1
          cases h1
          rfl
        subst this
        rw [hβ _ hyx]
        exact hfr y hy ky oy hoy'.get hwz hwy
    · have := hxe y hy ky
      subst this
      have : oy = o := by
        have h1 := hoy'.get
        rw [ho.get] at h1
        cases h1
        rfl
      subst this
      rcases (hls z.1).1 hzl with kz | kz
      · rw [hwp z hz kz oz hoz'] at hwz
        have hzx : z.1 ≠ y.1 := fun he => hn (by rw [← he]; exact kz)
        rw [hβ _ hzx]
        exact Ne.symm (hfr z hz kz oz hoz'.get hwy hwz)
      · exact absurd kz.symm hne
theorem Rel.more {p p2 : Nat → Option Obj} (hR : Rel (prC c p) Γ m w) (hp : ∀ q o, p2 q = some o → p q = some o ∨ (w.heap[q]? = some o ∧ ∀ k g, Γ k = some g → g.blk ≠ q)) (hg : ∀ g, g < 2 → p2 g = p g) : Rel (prC c p2) Γ m w :=
  ⟨hR.os, hR.tape, hR.output, hR.dom, hR.glob, hR.hold, hR.dis, fun q o hq => (hp q o hq).elim (fun h => hR.prot q o h) (fun h => ⟨h.1, fun k g hk _ => h.2 k g hk⟩), hR.lg, fun g hgl => by
    obtain ⟨A, T, fr, y, h1, h2, h3, h4⟩ := hR.gl g hgl
    exact ⟨A, T, fr, y, (hg g hgl).trans h1, h2, h3, h4⟩⟩
theorem DSt.execRow (hF : Facts) (hh : HkOK h) {n : Nat} (hX : Snd n X) (rdp : Option Nat) (S : DSt h X ops L c sz ds Kf listed pre rest e m Γ a w p β) (hD : Dok ops L) {x y : It} {r : List It} {o : Oper} (ho : ItOK ops x o) (hr : rest = y :: r) (hx : x ∈ rest) (hc3 : x.2.cls = 3) (hn : ¬ Ls listed x.1) (hy2 : 2 ≤ y.2.cls) (hny : ¬ Ls listed y.1) (hd : ∀ j ∈ depsO o, Ls listed j)
    {next : Act → World → Prop} {Q : Exit → Act → World → Prop} (hnext : ∀ a2 w2 p2 β2, DSt h X ops L c sz ds Kf (listed.setIfInBounds x.1 true) pre rest e m Γ a2 w2 p2 β2 → next a2 w2) : Step1 rdp ops o next Q a w := by
  have hxm := S.memR hx
  have hself : (∀ t, Ds x t → ¬ Us x t) ∧ x.2.d ≠ 0 := by
    rcases hD.self x hxm with h2 | h2
    · omega
    · exact ⟨h2.1, by
        rcases h2.2 with h3 | h3
        · omega
        · exact h3.2⟩
  have hsome : ∃ d, o.dst = some d := by
    have h1 := hself.2
    rw [ho.d] at h1
    unfold dstM at h1
    cases hdd : o.dst with
    | none => rw [hdd] at h1; exact absurd rfl h1
    | some d => exact ⟨d, rfl⟩
  obtain ⟨d, hdd⟩ := hsome
  -- it can be made
  obtain ⟨oy, hoy, hpk, hmain⟩ := cDr_spec (by rw [← hr]; exact S.yes : Yes ((cDr ops.toList (y :: r) pre).f h X sz e m Kf))
  have hyes : (∃ K : En → M → A, Yes (cG ops.toList o h X e m (fun v m => (cPut o.dst).f sz v e (fun e => K e m)))) ∧ ∀ t, Looks ops o t → ¬ Er listed pre rest t := by
    have hx' := hx
    rw [hr] at hx'
    rcases List.mem_cons.1 hx' with rfl | hxr
    · rw [Array.getElem?_toList, ho.get] at hoy
      cases hoy
      exact ⟨⟨_, hmain⟩, fun t ht => S.key2 hD ho hr hd (fun hl => absurd hl hn) (item_u ho ht)⟩
    · obtain ⟨o', ho', hy'⟩ := hpk hy2 x hxr hc3 (fun hw => hny (S.ready hD ho hd hw))
      rw [Array.getElem?_toList, ho.get] at ho'
      cases ho'
      rw [cOper_cG] at hy'
      exact ⟨⟨_, hy'⟩, fun t ht => S.key3 hD ho hr hxr hc3 hn hny hy2 hd (item_u ho ht)⟩
  obtain ⟨⟨K, hyK⟩, hlk⟩ := hyes
  obtain ⟨e', ha', he'⟩ := S.hasE hD hlk
  have hrow := row_gen (c := prC c p) (ho.row hc3) (h := h) (X := X) ha' S.rel he' hyK
  have hdl : ∀ t, o.dst = some t → ¬ Looks ops o t := fun t ht hl => hself.1 t ((item_d ho).2 ht) (item_u ho hl)
  have hdsz : ∀ {v : V} {m' : M}, Yes ((cPut o.dst).f sz v e (fun e => K e m')) → d < sz := fun hy => by
    obtain ⟨_, _, _, h3⟩ := put_y hy
    exact (h3 d hdd).1
  have hblt : ∀ y ∈ rest, Ls listed y.1 → ∀ oy, ops[y.1]? = some oy → Region.wanted oy (yielded ops a.tmps) = true → β y.1 < w.heap.size := fun y hy hyl oy hoy hw => by
    obtain ⟨d', _, hrec⟩ := S.early y hy hyl oy hoy
    rcases hrec with ⟨_, obj, w1, _, _, hpb, _⟩ | ⟨hw', _⟩
    · exact (Array.getElem?_eq_some_iff.1 (S.rel.prot _ _ hpb).1).1
    · rw [hw] at hw'; cases hw'
  unfold Step1
  rcases hrow with ⟨hw, hy⟩ | ⟨hw, D, Sy, n', t, v, Xf, hDs, hcells, hy, hrun, hdv⟩
  · rw [if_neg (by rw [hw]; simp)]
    have hwp := want_put (a := a) (ops := ops) (oy := o) (dst := o.dst) hdl undef
    refine ⟨fun _ _ => trivial, hnext (a.put o.dst undef) w p β (S.rowIn hD ho hx hc3 hn hd S.rel S.prp ⟨d, hdd, .inr ⟨by rw [hwp]; exact hw, ?_⟩⟩ (fun y hy hyl oy hoy h => h) (fun i hi => rfl) (fun y hy hyl oy hoy hwo => ?_))⟩
    · rw [hdd]
      exact put_same (by rw [S.size]; exact hdsz hy)
    · rw [hwp, hw] at hwo
      cases hwo
  · rw [if_pos hw]
    refine ⟨fun _ _ => trivial, ?_⟩
    rw [Oper.semAt_eq _ _ _ (by
      intro q hq
      have h3 := ho.row hc3
      rw [hq] at h3
      exact absurd (show (2 : Nat) = 3 from h3) (by decide)), hrun w, Oper.uponIn_value]
    have hwp := want_put (a := a) (ops := ops) (oy := o) (dst := o.dst) hdl (Xf w.heap.size)
    obtain ⟨p2, hp2⟩ : ∃ p2 : Nat → Option Obj, p2 = fun q => if q = w.heap.size then some (.cells D Sy) else p q := ⟨_, rfl⟩
    have hpe : ∀ q, q ≠ w.heap.size → p2 q = p q := fun q hq => by rw [hp2]; exact if_neg hq
    have hpn : p2 w.heap.size = some (.cells D Sy) := by rw [hp2]; exact if_pos rfl
    have hR1 : Rel (prC c p) Γ m (w.alloc (.cells D Sy)) := S.rel.idle rfl rfl rfl (by simp [World.size_alloc]) (fun j hj => by
      show (w.heap.push _)[j]? = _
      rw [Array.getElem?_push_lt hj, Array.getElem?_eq_getElem hj])
    have hR2 : Rel (prC c p2) Γ m (w.alloc (.cells D Sy)) := Rel.more hR1 (fun q o hq => by
      by_cases hqs : q = w.heap.size
      · subst hqs
        rw [hpn] at hq
        cases hq
        exact .inr ⟨World.alloc_heap_new _ _, fun k g hk => Nat.ne_of_lt (S.rel.dom k g hk).2⟩
      · rw [hpe q hqs] at hq
        exact .inl hq) (fun g hg => hpe g (fun he => by
        obtain ⟨o, ho⟩ := S.gl0 g hg
        have := (Array.getElem?_eq_some_iff.1 (S.rel.prot _ _ (S.prp _ _ ho)).1).1
        omega))
    have hcn : c.pr w.heap.size = none := by
      cases hc : c.pr w.heap.size with
      | none => rfl
      | some q =>
        have := (S.rel.prot _ _ (S.prp _ _ hc)).1
        have := (Array.getElem?_eq_some_iff.1 this).1
        omega
    refine hnext (a.put o.dst (Xf w.heap.size)) _ p2 (fun i => if i = x.1 then w.heap.size else β i) (S.rowIn hD ho hx hc3 hn hd hR2 (fun q o hq => ?_) ⟨d, hdd, .inl ⟨by rw [hwp]; exact hw, .cells D Sy, w, ?_, ?_, ?_, ?_⟩⟩ (fun y hy hyl oy hoy hrec => ?_) (fun i hi => if_neg hi) (fun y hy hyl oy hoy hwo hwy => ?_))
    · by_cases hqs : q = w.heap.size
      · subst hqs
        rw [hcn] at hq
        cases hq
      · rw [hpe q hqs]
        exact S.prp q o hq
    · simp
    · have h3 : execOp (a.put o.dst (Xf w.heap.size)).eval o = execOp a.eval o := execOp_put (ops := ops) o (cls_sel (ho.row hc3)) a o.dst _ fun t ht hm => hdl t ht (looksAt_looks hm)
      have h4 : (a.put o.dst (Xf w.heap.size)).tmps.getD d undef = Xf w.heap.size := by
        rw [hdd]
        exact put_same (by rw [S.size]; exact hdsz hy)
      rw [h3, h4]
      exact hrun w
    · rw [if_pos rfl]
      exact hpn
    · rw [if_pos rfl]
      exact hcn
    · have hyx : y.1 ≠ x.1 := fun he => hn (by rw [← he]; exact hyl)
      rw [if_neg hyx]
      obtain ⟨d', hd', hrec⟩ := hrec
      refine ⟨d', hd', ?_⟩
      rcases hrec with ⟨hwy, obj', w1', k1, k2, k3, k4⟩ | hrec
      · exact .inl ⟨hwy, obj', w1', k1, k2, by rw [hpe _ (Nat.ne_of_lt (hblt y hy hyl oy hoy hwy))]; exact k3, k4⟩
      · exact .inr hrec
    · rw [if_pos rfl]
      exact Nat.ne_of_lt (hblt y hy hyl oy hoy hwy)
/-- All that is ready. -/
theorem DSt.all_ls (S : DSt h X ops L c sz ds Kf listed pre rest e m Γ a w p β) (hD : Dok ops L) (hr : Region.ready .any ops listed = []) : ∀ i, i < ops.size → Ls listed i := by
  intro i
  induction i using Nat.strongRecOn with
  | _ i ih =>
    intro hi
    by_cases hl : Ls listed i
    · exact hl
    · have hm : i ∈ Region.ready .any ops listed := by
        rw [mem_ready]
        refine ⟨?_, ops[i], by simp [hi], fun e he hb => ?_⟩
        · have hi' : i < listed.size := by rw [S.siz]; exact hi
          unfold Ls at hl
          simp [hi'] at hl ⊢
          exact hl
        · have hd := hD.fwd i ops[i] (by simp [hi]) e.on (mem_deps.2 ⟨e, he, hb, rfl⟩)
          exact ih e.on hd (by omega)
      rw [hr] at hm
      cases hm
theorem DSt.fin (S : DSt h X ops L c sz ds Kf listed pre rest e m Γ a w p β) (hD : Dok ops L) (hl : ∀ i, i < ops.size → Ls listed i) (hn : rest = [] ∨ ∃ y r, rest = y :: r ∧ 2 ≤ y.2.cls ∧ ¬ Ls listed y.1) : Rel c Γ m w ∧ HasE c.ν Γ sz e ds a ∧ Yes (Kf e m) := by
  have hll : ∀ x ∈ L, Ls listed x.1 := fun x hx => by
    obtain ⟨o, ho⟩ := hD.item x hx
    exact hl _ (Array.getElem?_eq_some_iff.1 ho.get).1
  rcases hn with rfl | ⟨y, r, rfl, _, hy⟩
  · refine ⟨?_, ⟨S.size, fun t => S.at_ t ?_, S.dfr⟩, S.yes⟩
    · have := S.rel.weak (p := c.pr) S.prp (fun g hg => by
        obtain ⟨o, ho⟩ := S.gl0 g hg
        rw [ho]
        exact (S.prp g o ho).symm)
      exact this
    · rintro (⟨x, hx, hxl, _⟩ | ⟨x, hx, _⟩)
      · exact hxl (hll x (S.memP hx))
      · cases hx
  · exact absurd (hll y (S.memR (List.mem_cons_self ..))) hy
theorem draw_main (hF : Facts) (hh : HkOK h) {n : Nat} (hX : Snd n X) (rdp : Option Nat) (hD : Dok ops L) {Q : Exit → Act → World → Prop} {Γ0 : Gm} (hfin : ∀ e m Γ a w, LeG Γ0 Γ → Rel c Γ m w → HasE c.ν Γ sz e ds a → Yes (Kf e m) → Q .normal a w) :
    ∀ (fuel : Nat) {listed : Array Bool} {pre rest : List It} {e : En} {m : M} {Γ : Gm} {a : Act} {w : World} {p : Nat → Option Obj} {β : Nat → Nat} (U : List Nat), DSt h X ops L c sz ds Kf listed pre rest e m Γ a w p β → LeG Γ0 Γ → U.length ≤ fuel → (∀ i, i < ops.size → ¬ Ls listed i → i ∈ U) →
    wpAnyIn (Fw rdp) 0 P .any ops Q fuel listed a w
  | 0, listed, pre, rest, e, m, Γ, a, w, p, β, U, S, hl, hU, hUm => by
    have hU0 : U = [] := List.eq_nil_of_length_eq_zero (by omega)
    subst hU0
    obtain ⟨pre2, rest2, e2, m2, Γ2, p2, hl2, S2, hn2⟩ := DSt.norm hD rest pre S
    have hall : ∀ i, i < ops.size → Ls listed i := fun i hi => by
      by_cases h : Ls listed i
      · exact h
      · exact absurd (hUm i hi h) (by simp)
    refine ⟨?_, ?_⟩
    · apply List.eq_nil_iff_forall_not_mem.2
      intro i hi
      rw [mem_ready] at hi
      obtain ⟨h0, o, ho, _⟩ := hi
      have h1 := hall i (Array.getElem?_eq_some_iff.1 ho).1
      have hi' : i < listed.size := by rw [S.siz]; exact (Array.getElem?_eq_some_iff.1 ho).1
      unfold Ls at h1
      simp [hi'] at h0 h1
      rw [h0] at h1
      cases h1
    · obtain ⟨h1, h2, h3⟩ := S2.fin hD hall hn2
      exact hfin e2 m2 Γ2 a w (hl.trans hl2) h1 h2 h3
  | fuel + 1, listed, pre, rest, e, m, Γ, a, w, p, β, U, S, hl, hU, hUm => by
    obtain ⟨pre2, rest2, e2, m2, Γ2, p2, hl2, S2, hn2⟩ := DSt.norm hD rest pre S
    refine ⟨fun hr => ?_, fun i hi => ?_⟩
    · obtain ⟨h1, h2, h3⟩ := S2.fin hD (S2.all_ls hD hr) hn2
      exact hfin e2 m2 Γ2 a w (hl.trans hl2) h1 h2 h3
    · rw [mem_ready] at hi
      obtain ⟨h0, o, ho, hdeps⟩ := hi
      have hisz : i < ops.size := (Array.getElem?_eq_some_iff.1 ho).1
      obtain ⟨x, hx, hxi⟩ := hD.all i hisz
      subst hxi
      obtain ⟨o', ho'⟩ := hD.item x hx
      have : o' = o := by
        have h1 := ho'.get
        rw [ho] at h1
        cases h1
        rfl
      subst this
      have hd : ∀ j ∈ depsO o', Ls listed j := fun j hj => by
        obtain ⟨e, he, hb, rfl⟩ := mem_deps.1 hj
        exact hdeps e he hb
      have hnl : ¬ Ls listed x.1 := by
        have hi' : x.1 < listed.size := by rw [S.siz]; exact hisz
        unfold Ls
        simp [hi'] at h0 ⊢
        exact h0
      have hnext : ∀ {pre3 rest3 e3 m3 Γ3 a3 w3 p3 β3}, LeG Γ2 Γ3 → DSt h X ops L c sz ds Kf (listed.setIfInBounds x.1 true) pre3 rest3 e3 m3 Γ3 a3 w3 p3 β3 → wpAnyIn (Fw rdp) 0 P .any ops Q fuel (listed.setIfInBounds x.1 true) a3 w3 := by
        intro pre3 rest3 e3 m3 Γ3 a3 w3 p3 β3 hl3 S3
        refine draw_main hF hh hX rdp hD hfin fuel (U.erase x.1) S3 ((hl.trans hl2).trans hl3) ?_ (fun j hj hjl => ?_)
        · rw [List.length_erase_of_mem (hUm _ hisz hnl)]
          omega
        · have hj2 : ¬ Ls listed j ∧ j ≠ x.1 := by
            rw [Ls_set (ls_i S ho')] at hjl
            exact ⟨fun h => hjl (.inl h), fun h => hjl (.inr h)⟩
          exact (List.mem_erase_of_ne hj2.2).2 (hUm j hj hj2.1)
      have key : Step1 rdp ops o' (wpAnyIn (Fw rdp) 0 P .any ops Q fuel (listed.setIfInBounds x.1 true)) Q a w := by
        have hxs : x ∈ pre2 ∨ x ∈ rest2 := by
          have := hx
          rw [S2.split] at this
          simpa using this
        rcases hxs with hxp | hxr
        · exact S2.execLate hF hh hX rdp hD ho' hxp hnl hd (fun Γ3 a3 w3 hl3 S3 => hnext hl3 S3)
        · rcases hn2 with rfl | ⟨y, r, hr, hy2, hny⟩
          · cases hxr
          · have hord : x = y ∨ x ∈ r := by
              rw [hr] at hxr
              simpa using hxr
            have hc3 : x ≠ y → x.2.cls = 3 := fun hne => by
              have hxr2 := hord.resolve_left hne
              have hk : Okp y x := by
                have := S2.restP hD
                rw [hr, List.pairwise_cons] at this
                exact this.1 x hxr2
              have hw : ¬ Wt x y.1 := fun hw => hny (S2.ready hD ho' hd hw)
              rcases hD.self x hx with h1 | h1
              · exact absurd ⟨hy2, by omega⟩ (hk.un hw).1
              · rcases h1.2 with h2 | h2
                · exact absurd ⟨hy2, by omega⟩ (hk.un hw).1
                · exact h2.1
            by_cases h3 : x.2.cls = 3
            · exact S2.execRow hF hh hX rdp hD ho' hr hxr h3 hnl hy2 hny hd (fun a3 w3 p3 β3 S3 => hnext (LeG.refl _) S3)
            · have hxy : x = y := by
                by_cases hne : x = y
                · exact hne
                · exact absurd (hc3 hne) h3
              subst hxy
              subst hr
              have h2 : x.2.cls = 2 := by
                rcases hD.self x hx with h1 | h1
                · exact h1
                · rcases h1.2 with h2 | h2
                  · omega
                  · exact absurd h2.1 h3
              exact S2.execHead hF hh hX rdp hD ho' h2 hnl hd (fun e3 m3 Γ3 a3 w3 hl3 S3 => hnext hl3 S3)
      unfold wpOpIn
      rw [ho]
      exact key
end
/-- Drawn regions are as the interpreter has them. -/
theorem drawOK (hF : Facts) : DrawOK := by
  intro h n X hh hX id ops c sz rd rdp e ds m Kn Kx Γ a w Q hrd hR ha hn hx hy
  have hy : Yes ((cDraw ops.toList).f h X sz e m (fun e m => Kn e ds m)) := hy
  unfold cDraw at hy
  cases hok : okDraw ops.toList with
  | false => rw [hok] at hy; exact (yes_none hy).elim
  | true =>
    rw [hok] at hy
    have hy : Yes ((cDr ops.toList (drawOrd ops.toList) []).f h X sz e m (fun e m => Kn e ds m)) := hy
    have hD := okDraw_spec hok
    have hnl : ∀ i, ¬ Ls (Array.replicate ops.size false) i := fun i hl => by
      unfold Ls at hl
      rw [Array.getD_eq_getD_getElem?, Array.getElem?_replicate] at hl
      split at hl <;> cases hl
    refine wpIn_region_any hF.mixed ?_
    refine draw_main (h := h) (X := X) (L := drawOrd ops.toList) (c := c) (sz := sz) (ds := ds) (Kf := fun e m => Kn e ds m) hF hh hX rdp hD (Γ0 := Γ) (fun e m Γ' a w hl hR ha hy => hn Γ' e ds m a w hl hR ha hy) ops.size (pre := []) (rest := drawOrd ops.toList) (e := e) (m := m) (Γ := Γ) (p := c.pr) (β := fun _ => 0) (List.range ops.size)
      ⟨by simp, by simp, fun i oi hi hl => absurd hl (hnl i), ?_, fun q o h => h, fun g hg => (by
        obtain ⟨A, T, fr, y, h1, _⟩ := hR.gl g hg
        exact ⟨_, h1⟩), ha.size, fun t _ => ha.at_ t, ha.defers, hy, fun x hx => (by cases hx), fun x hx hl => absurd hl (hnl _), fun x hx => (by cases hx), fun x hx hl => absurd hl (hnl _), fun x hx y hy hl => absurd hl (hnl _)⟩ (LeG.refl _) (by simp) (fun i hi _ => by simpa using hi)
    exact hR.idle rfl rfl rfl (Nat.le_refl _) (fun j hj => rfl)
end Go.Proofs.YtiekoeapmhhjbaaGreatDoor.X
/- The interpreter is sound, part QJ: functions whose outcomes are one. -/
namespace Go.Proofs.YtiekoeapmhhjbaaGreatDoor.X
open Go Go.RowKit
set_option linter.unusedVariables false
set_option linter.unusedSimpArgs false
variable {c : Ctx} {Γ Γ' : Gm} {m m' : M} {w w' : World} {e e' : En} {a : Act} {ds : List Nat} {sz : Nat}
theorem leV_ok {u v : V} {y : Value} {ν : Nat → Value → Prop} (h : leV u v = true) (hv : DV ν Γ v y) : DV ν Γ u y := by
  cases u
  case any => rw [DV]; trivial
  all_goals
    have h' : eqV 4 _ v = true := h
    rw [eqV_eq 4 h']
    exact hv
theorem nrec_all {p : Nat → Bool} : ∀ {n : Nat}, nrec (fun (_ : Unit) => true) (fun i ih v => bi (p i) (ih v) false) n () = true → ∀ i, i < n → p i = true
  | 0, _, i, hi => absurd hi (Nat.not_lt_zero _)
  | n + 1, h, i, hi => by
    have h' : bi (p n) (nrec (fun (_ : Unit) => true) (fun i ih v => bi (p i) (ih v) false) n ()) false = true := h
    obtain ⟨h1, h2⟩ := bi_and h'
    rcases Nat.lt_or_ge i n with hlt | hge
    · exact nrec_all h2 i hlt
    · have : i = n := by omega
      rw [this]
      exact h1
theorem ents_eq : ∀ {es fs : List (V × V × Nat)}, lrec (fun b => isNil b) (fun (x : V × V × Nat) _ ih b => List.rec false (fun (y : V × V × Nat) r _ => bi (eqV 4 x.1 y.1) (bi (eqV 4 x.2.1 y.2.1) (bi (Nat.beq x.2.2 y.2.2) (ih r) false) false) false) b) es fs = true → es = fs
  | [], [], _ => rfl
  | [], _ :: _, h => by cases h
  | _ :: _, [], h => by cases h
  | x :: es, y :: fs, h => by
    obtain ⟨h1, h⟩ := bi_and (show bi (eqV 4 x.1 y.1) (bi (eqV 4 x.2.1 y.2.1) (bi (Nat.beq x.2.2 y.2.2) (lrec (fun b => isNil b) (fun (x : V × V × Nat) _ ih b => List.rec false (fun (y : V × V × Nat) r _ => bi (eqV 4 x.1 y.1) (bi (eqV 4 x.2.1 y.2.1) (bi (Nat.beq x.2.2 y.2.2) (ih r) false) false) false) b) es fs) false) false) false = true from h)
    obtain ⟨h2, h⟩ := bi_and h
    obtain ⟨h3, h⟩ := bi_and h
    rw [ents_eq h]
    congr 1
    obtain ⟨x1, x2, x3⟩ := x
    obtain ⟨y1, y2, y3⟩ := y
    rw [show x1 = y1 from eqV_eq 4 h1, show x2 = y2 from eqV_eq 4 h2, show x3 = y3 from Nat.eq_of_beq_eq_true h3]
/-- The one block says no more than the other. -/
def LeB (a b : Blk) : Prop := a = .dead ∨ a = b ∨ ∃ n t u T f, a = .cells n t T f ∧ b = .cells n u T f ∧ ∀ i, i < n → leV (gC i t) (gC i u) = true
theorem leB_spec {a b : Blk} (h : leB a b = true) : LeB a b := by
  cases a with
  | dead => exact .inl rfl
  | cells n t T f =>
    cases b with
    | cells k u S g =>
      have h' : bi (Nat.beq n k) (bi (Nat.beq T S) (bi (eqBo f g) (nrec (fun (_ : Unit) => true) (fun i ih v => bi (leV (gC i t) (gC i u)) (ih v) false) n ()) false) false) false = true := h
      obtain ⟨h1, h5⟩ := bi_and h'
      obtain ⟨h2, h6⟩ := bi_and h5
      obtain ⟨h3, h7⟩ := bi_and h6
      have e1 := Nat.eq_of_beq_eq_true h1
      have e2 := Nat.eq_of_beq_eq_true h2
      have e3 := eqBo_eq' h3
      subst e1 e2 e3
      exact .inr (.inr ⟨_, _, _, _, _, rfl, rfl, nrec_all h7⟩)
    | _ => cases h
  | map es cl =>
    cases b with
    | map fs d =>
      obtain ⟨h1, h2⟩ := bi_and (show bi (Nat.beq cl d) _ false = true from h)
      have e1 := Nat.eq_of_beq_eq_true h1
      have e2 := ents_eq h2
      subst e1 e2
      exact .inr (.inl rfl)
    | _ => cases h
  | _ => cases b <;> cases h
theorem LeB.bok {ν : Nat → Value → Prop} {a b : Blk} {g : G} {hp : Array Obj} (h : LeB a b) (hb : BOK ν Γ b g hp) : BOK ν Γ a g hp := by
  rcases h with rfl | rfl | ⟨n, t, u, T, f, rfl, rfl, hi⟩
  · trivial
  · exact hb
  · obtain ⟨A, T', fr, h1, h2, h3, h4, h5, h6⟩ := hb
    refine ⟨A, T', fr, h1, h2, h3, h4, h5, fun i hin => ?_⟩
    obtain ⟨y, k1, k2, k3⟩ := h6 i hin
    exact ⟨y, k1, k2, leV_ok (hi i hin) k3⟩
theorem LeB.dead {a b : Blk} (h : LeB a b) (ha : a ≠ .dead) : b ≠ .dead := by
  rcases h with rfl | rfl | ⟨n, t, u, T, f, rfl, rfl, hi⟩
  · exact absurd rfl ha
  · exact ha
  · simp
theorem LeB.own {a b : Blk} (h : LeB a b) (ha : ownB a) : ownB b := by
  rcases h with rfl | rfl | ⟨n, t, u, T, f, rfl, rfl, hi⟩
  · exact absurd rfl ha.1
  · exact ha
  · exact ownB_cells
theorem eqAt_spec {m m' : M} : ∀ {l : List Nat}, eqAt m m' l = true → ∀ k ∈ l, LeB (m.get k) (m'.get k)
  | [], _, k, hk => by cases hk
  | x :: l, h, k, hk => by
    obtain ⟨h1, h2⟩ := bi_and (show bi (leB (m.get x) (m'.get x)) (eqAt m m' l) false = true from h)
    rcases List.mem_cons.1 hk with rfl | hk
    · exact leB_spec h1
    · exact eqAt_spec h2 k hk
theorem over_t (m r : M) : ∀ l : List Nat, ∀ k, k ∉ l → g5 .dead k (lrec m.t (fun k _ t => u5 .dead k (r.get k) t) l) = m.get k
  | [], k, _ => rfl
  | x :: l, k, hk => by
    show g5 .dead k (u5 .dead x (r.get x) (lrec m.t (fun k _ t => u5 .dead k (r.get k) t) l)) = m.get k
    rw [g5_ne (fun he => hk (by rw [he]; exact List.mem_cons_self ..))]
    exact over_t m r l k fun h => hk (List.mem_cons_of_mem _ h)
theorem over_get (m r : M) {k : Nat} (hk : k ∉ (over m r).lg) : (over m r).get k = m.get k := by
  have e1 : over m r = ⟨r.n, lrec m.t (fun k _ t => u5 .dead k (r.get k) t) r.lg, r.lg⟩ := by
    unfold over
    rw [frc_eq]
  rw [e1] at hk ⊢
  exact over_t m r r.lg k hk
theorem Rel.sub (h : Rel { c with r0 := fun k => m.get k } Γ' m' w') (hR : Rel c Γ m w) {o : M} (hn : o.n = m'.n) (ho : ∀ k, k ∉ o.lg → o.get k = m.get k) (h1 : eqAt o m' o.lg = true) (h2 : eqAt o m' m'.lg = true) : Rel c Γ' ⟨o.n, o.t, lapp o.lg m.lg⟩ w' := by
  have key : ∀ k, LeB (o.get k) (m'.get k) := fun k => by
    by_cases hk : k ∈ o.lg
    · exact eqAt_spec h1 k hk
    · by_cases hk2 : k ∈ m'.lg
      · exact eqAt_spec h2 k hk2
      · right; left
        rw [ho k hk, h.lg k hk2]
  have hget : ∀ k, (⟨o.n, o.t, lapp o.lg m.lg⟩ : M).get k = o.get k := fun k => rfl
  refine ⟨h.os, h.tape, h.output, fun k g hk => by have := h.dom k g hk; rw [hn]; exact this, h.glob, fun k hk => ?_, fun j k gj gk hjk hj hk hjo hkd => ?_, fun q ob hq => ?_, fun k hk => ?_, hR.gl⟩
  · rw [hget] at hk ⊢
    obtain ⟨g, k1, k2⟩ := h.hold k ((key k).dead hk)
    exact ⟨g, k1, (key k).bok k2⟩
  · exact h.dis j k gj gk hjk hj hk ((key j).own hjo) ((key k).dead hkd)
  · obtain ⟨k1, k2⟩ := h.prot q ob hq
    exact ⟨k1, fun k g hk hkd => k2 k g hk ((key k).dead hkd)⟩
  · rw [lapp_eq] at hk
    rw [hget, ho k (fun hm => hk (List.mem_append_left _ hm))]
    exact hR.lg k (fun hm => hk (List.mem_append_right _ hm))
theorem ndRun_ok (hF : Facts) {n : Nat} {X : Ex} (hX : Snd n X) (f : FuncId) : SndFn f (ndRun (cFun f) X) := by
  intro c m vs K Γ w args hR hv hy
  have hy : Yes (oc ((cFun f).f X ⟨m.n, m.t, []⟩ vs (fun v m' => some (v, m'))) none fun r => nd2 (cFun f) X m vs K r.1 (over m r.2)) := hy
  obtain ⟨r, _, hy⟩ := yes_oc hy
  obtain ⟨v0, mr⟩ := r
  have hy : Yes (oc ((cFun f).f X ⟨m.n, m.t, []⟩ vs (fun v m' => bi (leV v0 v) (bi (Nat.beq (over m mr).n m'.n) (bi (eqAt (over m mr) m' (over m mr).lg) (bi (eqAt (over m mr) m' m'.lg) (yesA m') none) none) none) none)) none fun _ => K v0 ⟨(over m mr).n, (over m mr).t, lapp (over m mr).lg m.lg⟩) := hy
  obtain ⟨r2, h1, h2⟩ := yes_oc hy
  have hR0 : Rel { c with r0 := fun k => m.get k } Γ ⟨m.n, m.t, []⟩ w := ⟨hR.os, hR.tape, hR.output, hR.dom, hR.glob, hR.hold, hR.dis, hR.prot, fun k _ => rfl, hR.gl⟩
  have hc := cFun_ok (c := { c with r0 := fun k => m.get k }) hF hX (f := f) hR0 hv ⟨r2, h1⟩
  have key : ∀ v y m' Γ' w', Rel { c with r0 := fun k => m.get k } Γ' m' w' → DV c.ν Γ' v y → Yes (bi (leV v0 v) (bi (Nat.beq (over m mr).n m'.n) (bi (eqAt (over m mr) m' (over m mr).lg) (bi (eqAt (over m mr) m' m'.lg) (yesA m') none) none) none) none) →
      Rel c Γ' ⟨(over m mr).n, (over m mr).t, lapp (over m mr).lg m.lg⟩ w' ∧ DV c.ν Γ' v0 y := by
    intro v y m' Γ' w' hR' hv' hk
    obtain ⟨k1, hk⟩ := yes_bi hk
    obtain ⟨k2, hk⟩ := yes_bi hk
    obtain ⟨k3, hk⟩ := yes_bi hk
    obtain ⟨k4, _⟩ := yes_bi hk
    exact ⟨hR'.sub hR (Nat.eq_of_beq_eq_true k2) (fun k hk => over_get m mr hk) k3 k4, leV_ok k1 hv'⟩
  obtain ⟨fn, hf, ⟨hb, hC⟩ | ⟨hb, v, y, m', Γ', w', hl, hR', hy', hK, hr⟩⟩ := hc
  · refine ⟨fn, hf, .inl ⟨hb, hC.mono fun x w' hE => ?_⟩⟩
    obtain ⟨v, y, m', Γ', rfl, hl, hR', hy', hK⟩ := hE
    obtain ⟨k1, k2⟩ := key v y m' Γ' w' hR' hy' hK
    exact ⟨v0, y, _, Γ', rfl, hl, k1, k2, h2⟩
  · obtain ⟨k1, k2⟩ := key v y m' Γ' w' hR' hy' hK
    exact ⟨fn, hf, .inr ⟨hb, v0, y, _, Γ', w', hl, k1, k2, h2, hr⟩⟩
end Go.Proofs.YtiekoeapmhhjbaaGreatDoor.X
