/- Part Q of the second layer: blocks that are shared (an arena of them), pointers to them as numbers; maps of one's own that are ranged over. -/
import Derived.Test.YtfomkndngnfneaaDoorGnP
namespace Go.Proofs.YtfomkndngnfneaaDoor.Sx
open Go Go.RowKit
set_option linter.unusedVariables false
set_option linter.unusedSimpArgs false
section
variable {P : Program} {n : Fm} {Qf : Exit → Act → World → Prop} {k : List It} {e : Env} {w w' w0 : World} {H : List Res} {R R0 : Res} {ζ ζ' : Zp} {ops : Array Oper} {rest : List Oper} {T : TypeId} {pos : String} {af : Array Edge} {d : Nat} {V α : Type} {xt yt : TypeId} {x y v : Operand}
variable {Γ Γ' : List Nat}
/-! ### Pointers into an arena -/
def PtA (Γ : List Nat) (A : Option Addr) (x : Option Nat) : Prop := match x with
  | none => A = none
  | some i => ∃ g, A = some ⟨g, 0, none⟩ ∧ Γ[i]? = some g
theorem PtA.mono {A : Option Addr} {x : Option Nat} (h : PtA Γ A x) (_ : Le ζ ζ') : PtA Γ A x := h
theorem get_pre {i : Nat} {g : Nat} (hl : Γ <+: Γ') (h : Γ[i]? = some g) : Γ'[i]? = some g := by
  obtain ⟨t, rfl⟩ := hl
  have hlt : i < Γ.length := by
    rcases Nat.lt_or_ge i Γ.length with h' | h'
    · exact h'
    · rw [List.getElem?_eq_none h'] at h; cases h
  rw [List.getElem?_append_left hlt]
  exact h
theorem PtA.up {A : Option Addr} {x : Option Nat} (h : PtA Γ A x) (hl : Γ <+: Γ') : PtA Γ' A x := by
  cases x with
  | none => exact h
  | some i =>
    obtain ⟨g, h1, h2⟩ := h
    exact ⟨g, h1, get_pre hl h2⟩
theorem PtA.nil (Γ : List Nat) : PtA Γ none none := rfl
theorem PtA.some {A : Option Addr} {x : Option Nat} {i : Nat} (h : PtA Γ A x) (hx : x = Option.some i) : ∃ g, A = Option.some ⟨g, 0, none⟩ ∧ Γ[i]? = Option.some g := by
  subst hx
  exact h
def tA (Γ : List Nat) : Ty (Option Nat) where
  sz := 1
  R := fun ζ cs x => ∃ A, cs = [.pointer A] ∧ PtA Γ A x
  len := by rintro _ _ _ ⟨A, rfl, _⟩; rfl
  one := by rintro _ _ x ⟨A, rfl, _⟩ u hu; rw [List.mem_singleton] at hu; subst hu; rfl
  mono := by rintro _ _ _ _ ⟨A, rfl, h⟩ hl; exact ⟨A, rfl, h⟩
def TUp (τ τ' : Ty α) : Prop := ∀ ζ cs x, τ.R ζ cs x → τ'.R ζ cs x
theorem TUp.refl (τ : Ty α) : TUp τ τ := fun _ _ _ h => h
theorem tA.up (hl : Γ <+: Γ') : TUp (tA Γ) (tA Γ') := by
  rintro ζ cs x ⟨A, rfl, h⟩
  exact ⟨A, rfl, h.up hl⟩
theorem Cs.up {τ τ' : Ty α} {cells : List Value} {xs : List α} (h : Cs τ ζ cells xs) (hl : TUp τ τ') : Cs τ' ζ cells xs := by
  obtain ⟨css, h1, rfl⟩ := h
  exact ⟨css, h1.mono (fun c x hr => hl ζ c x hr), rfl⟩
theorem Sl.up {τ τ' : Ty α} {A : Option Addr} {c : Nat} {xs : List α} (h : Sl τ ζ A c xs) (hl : TUp τ τ') : Sl τ' ζ A c xs := by
  obtain ⟨h1, h2, cells, h3, h4⟩ := h
  exact ⟨h1, h2, cells, h3.up hl, h4⟩
theorem tSl.up {τ τ' : Ty α} (hl : TUp τ τ') : TUp (tSl τ) (tSl τ') := by
  rintro ζ cs x ⟨A, c, rfl, h⟩
  exact ⟨A, c, rfl, h.up hl⟩
theorem Mr.up {τ τ' : Ty V} {pk : List Value → Value} {es : Array MapEntry} {ck : Nat} {m : Mp V} (h : Mr τ pk ζ es ck m) (hl : TUp τ τ') : Mr τ' pk ζ es ck m := by
  obtain ⟨h1, h2, h3, h4⟩ := h
  refine ⟨h1, h2, fun e he => ?_, fun x hx => ?_⟩
  · obtain ⟨x, hx, hk, cs, hv, hr⟩ := h3 e he; exact ⟨x, hx, hk, cs, hv, hl _ _ _ hr⟩
  · obtain ⟨e, he, hk, cs, hv, hr⟩ := h4 x hx; exact ⟨e, he, hk, cs, hv, hl _ _ _ hr⟩
theorem MH.up {τ τ' : Ty V} {pk : List Value → Value} {h : Zp} {A : Option Nat} {m : Mp V} (hm : MH τ pk ζ h A m) (hl : TUp τ τ') : MH τ' pk ζ h A m := by
  rcases hm with hm | ⟨r, es, ck, h1, h2, h3⟩
  · exact .inl hm
  · exact .inr ⟨r, es, ck, h1, h2, h3.up hl⟩
theorem Mz.up {τ τ' : Ty V} {pk : List Value → Value} {A : Option Nat} {m : Mp V} (h : Mz τ pk ζ A m) (hl : TUp τ τ') : Mz τ' pk ζ A m := MH.up h hl
theorem Ex.eqlA {et : TypeId} {A : Option Addr} {o : Option Nat} (h : PtA Γ A o) (hx : ev e x = some (.pointer A)) (hy : ev e y = some (.pointer none)) (ht : P.underlying xt = some (.pointer et)) : Ex P e ⟨some d, .binOp .eql xt x y yt, T, pos, af, none⟩ (vb (decide (o = none))) := fun c hc w => by
  have h1 : (Op.equal xt (.pointer A) (.pointer none)).run P w = .ok A.isNone w := run_eqNil A 9999 ht
  have h2 : A.isNone = decide (o = none) := by
    cases o with
    | none => have h' : A = none := h; subst h'; simp
    | some i => obtain ⟨g, rfl, _⟩ := h; simp
  simp only [execOp, hc _ _ hx, hc _ _ hy, binOp, eqGuard]
  simp [h1, h2]
theorem Ex.neqA {et : TypeId} {A : Option Addr} {o : Option Nat} (h : PtA Γ A o) (hx : ev e x = some (.pointer A)) (hy : ev e y = some (.pointer none)) (ht : P.underlying xt = some (.pointer et)) : Ex P e ⟨some d, .binOp .neq xt x y yt, T, pos, af, none⟩ (vb (!decide (o = none))) := fun c hc w => by
  have h1 : (Op.equal xt (.pointer A) (.pointer none)).run P w = .ok A.isNone w := run_eqNil A 9999 ht
  have h2 : A.isNone = decide (o = none) := by
    cases o with
    | none => have h' : A = none := h; subst h'; simp
    | some i => obtain ⟨g, rfl, _⟩ := h; simp
  simp only [execOp, hc _ _ hx, hc _ _ hy, binOp, eqGuard]
  simp [h1, h2]
/-! ### The arena -/
def ArL (O : Zp → Nat → α → List Res → Prop) (ζ : Zp) : List Nat → List α → List Res → Prop
  | [], [], Ha => Ha = []
  | g :: Γ, a :: A, Ha => ∃ rs Hr, O ζ g a rs ∧ ArL O ζ Γ A Hr ∧ Ha.Perm (rs ++ Hr)
  | _, _, _ => False
variable {O : Zp → Nat → α → List Res → Prop} {A : List α} {Ha : List Res}
abbrev OMono (O : Zp → Nat → α → List Res → Prop) : Prop := ∀ ζ ζ' g a rs, Le ζ ζ' → O ζ g a rs → O ζ' g a rs
theorem ArL.mono (hO : OMono O) (hl : Le ζ ζ') : ∀ {Γ : List Nat} {A : List α} {Ha : List Res}, ArL O ζ Γ A Ha → ArL O ζ' Γ A Ha
  | [], [], _, h => h
  | _ :: _, _ :: _, _, ⟨rs, Hr, h1, h2, h3⟩ => ⟨rs, Hr, hO _ _ _ _ _ hl h1, ArL.mono hO hl h2, h3⟩
  | [], _ :: _, _, h => h.elim
  | _ :: _, [], _, h => h.elim
theorem ArL.len : ∀ {Γ : List Nat} {A : List α} {Ha : List Res}, ArL O ζ Γ A Ha → Γ.length = A.length
  | [], [], _, _ => rfl
  | _ :: _, _ :: _, _, ⟨_, _, _, h2, _⟩ => by simp [ArL.len h2]
  | [], _ :: _, _, h => h.elim
  | _ :: _, [], _, h => h.elim
theorem ArL.perm : ∀ {Γ : List Nat} {A : List α} {Ha Hb : List Res}, ArL O ζ Γ A Ha → Hb.Perm Ha → ArL O ζ Γ A Hb
  | [], [], Ha, Hb, h, hp => by
    have h' : Ha = [] := h
    subst h'
    exact hp.eq_nil
  | _ :: _, _ :: _, _, _, ⟨rs, Hr, h1, h2, h3⟩, hp => ⟨rs, Hr, h1, h2, hp.trans h3⟩
  | [], _ :: _, _, _, h, _ => h.elim
  | _ :: _, [], _, _, h, _ => h.elim
theorem ArL.open (hO : OMono O) : ∀ {Γ : List Nat} {A : List α} {Ha : List Res} {i g : Nat} {a : α}, ArL O ζ Γ A Ha → Γ[i]? = some g → A[i]? = some a →
    ∃ rs Hr, O ζ g a rs ∧ Ha.Perm (rs ++ Hr) ∧ (∀ ζ', Le ζ ζ' → ∀ a' rs', O ζ' g a' rs' → ArL O ζ' Γ (A.set i a') (rs' ++ Hr)) ∧ ∀ ζ', Le ζ ζ' → ∀ rs', O ζ' g a rs' → ArL O ζ' Γ A (rs' ++ Hr)
  | [], [], _, _, _, _, _, h, _ => by simp at h
  | g0 :: Γ, a0 :: A, Ha, 0, g, a, ⟨rs, Hr, h1, h2, h3⟩, hg, ha => by
    simp at hg ha
    subst hg ha
    exact ⟨rs, Hr, h1, h3, fun ζ' hl a' rs' h' => ⟨rs', Hr, h', h2.mono hO hl, List.Perm.refl _⟩, fun ζ' hl rs' h' => ⟨rs', Hr, h', h2.mono hO hl, List.Perm.refl _⟩⟩
  | g0 :: Γ, a0 :: A, Ha, i + 1, g, a, ⟨rs, Hr, h1, h2, h3⟩, hg, ha => by
    simp at hg ha
    obtain ⟨rs1, Hr1, k1, k2, k3, k4⟩ := ArL.open hO h2 hg ha
    have key : ∀ rs' : List Res, (rs' ++ (rs ++ Hr1)).Perm (rs ++ (rs' ++ Hr1)) := fun rs' => by
      rw [← List.append_assoc, ← List.append_assoc]
      exact List.Perm.append_right _ List.perm_append_comm
    refine ⟨rs1, rs ++ Hr1, k1, (h3.trans (k2.append_left rs)).trans (key rs1).symm, fun ζ' hl a' rs' h' => ?_, fun ζ' hl rs' h' => ?_⟩
    · exact ⟨rs, rs' ++ Hr1, hO _ _ _ _ _ hl h1, k3 ζ' hl a' rs' h', key rs'⟩
    · exact ⟨rs, rs' ++ Hr1, hO _ _ _ _ _ hl h1, k4 ζ' hl rs' h', key rs'⟩
  | [], _ :: _, _, _, _, _, h, _, _ => h.elim
  | _ :: _, [], _, _, _, _, h, _, _ => h.elim
theorem ArL.push : ∀ {Γ : List Nat} {A : List α} {Ha : List Res} {g : Nat} {a : α} {rs : List Res}, ArL O ζ Γ A Ha → O ζ g a rs → ArL O ζ (Γ ++ [g]) (A ++ [a]) (rs ++ Ha)
  | [], [], Ha, g, a, rs, h, ho => by
    have h' : Ha = [] := h
    subst h'
    exact ⟨rs, [], ho, rfl, by simp⟩
  | g0 :: Γ, a0 :: A, Ha, g, a, rs, ⟨rs0, Hr, h1, h2, h3⟩, ho => by
    refine ⟨rs0, rs ++ Hr, h1, ArL.push h2 ho, ?_⟩
    refine (h3.append_left rs).trans ?_
    rw [← List.append_assoc, ← List.append_assoc]
    exact List.Perm.append_right _ List.perm_append_comm
  | [], _ :: _, _, _, _, _, h, _ => h.elim
  | _ :: _, [], _, _, _, _, h, _ => h.elim
theorem ArL.nil (O : Zp → Nat → α → List Res → Prop) (ζ : Zp) (h : Γ = []) : ArL O ζ Γ [] [] := by subst h; rfl
/-- A new one. -/
theorem ArL.new {g : Nat} {a : α} {rs : List Res} (h : ArL O ζ Γ A Ha) (ho : O ζ g a rs) : ∃ L, Γ <+: L ∧ PtA L (some ⟨g, 0, none⟩) (some A.length) ∧ ArL O ζ L (A ++ [a]) (rs ++ Ha) := by
  refine ⟨Γ ++ [g], List.prefix_append _ _, ⟨g, rfl, ?_⟩, h.push ho⟩
  rw [← h.len]
  simp
theorem St.forgetT {X Ha : List Res} (h : Ht w0 (frz ζ :: (Ha ++ X)) w) : Ht w0 (frz ζ :: X) w := h.sub (List.Sublist.cons_cons _ (List.sublist_append_right _ _))
/-- Others come ahead of the arena, or behind it. -/
theorem St.mid {B M Ha X : List Res} (h : Ht w0 (frz ζ :: (B ++ (M ++ (Ha ++ X)))) w) : Ht w0 (frz ζ :: (B ++ (Ha ++ (M ++ X)))) w := by
  refine h.perm (List.Perm.cons _ (List.Perm.append_left B ?_))
  rw [← List.append_assoc, ← List.append_assoc]
  exact List.Perm.append_right _ List.perm_append_comm
theorem St.tailP {B Ha Hb X : List Res} (h : Ht w0 (frz ζ :: (B ++ (Ha ++ X))) w) (hp : Ha.Perm Hb) : Ht w0 (frz ζ :: (B ++ (Hb ++ X))) w :=
  h.perm (List.Perm.cons _ (List.Perm.append_left B (List.Perm.append_right X hp)))
/-! ### A range over a map of one's own -/
variable {τ : Ty V} {pk : List Value → Value} {m : Mp V}
/-- What an iterator has still to hand out, of the map whose entries these are. -/
def Mj (τ : Ty V) (pk : List Value → Value) (ζ : Zp) (es : Array MapEntry) (since : Nat) (seen : Array Nat) (m : Mp V) : Prop :=
  MapKept.Stamped es since ∧ Srt m ∧ (∀ e ∈ (leftOf es seen).toList, ∃ x ∈ m, Me τ pk ζ e x) ∧ ∀ x ∈ m, ∃ e ∈ (leftOf es seen).toList, Me τ pk ζ e x
theorem Mj.mono {es : Array MapEntry} {since : Nat} {seen : Array Nat} (h : Mj τ pk ζ es since seen m) (hl : Le ζ ζ') : Mj τ pk ζ' es since seen m := by
  obtain ⟨h4, h5, h6, h7⟩ := h
  refine ⟨h4, h5, fun e he => ?_, fun x hx => ?_⟩
  · obtain ⟨x, hx, hm⟩ := h6 e he; exact ⟨x, hx, hm.mono hl⟩
  · obtain ⟨e, he, hm⟩ := h7 x hx; exact ⟨e, he, hm.mono hl⟩
theorem Mj.srt {es : Array MapEntry} {since : Nat} {seen : Array Nat} (h : Mj τ pk ζ es since seen m) : Srt m := h.2.1
theorem Mj.up {τ' : Ty V} {es : Array MapEntry} {since : Nat} {seen : Array Nat} (h : Mj τ pk ζ es since seen m) (hl : TUp τ τ') : Mj τ' pk ζ es since seen m := by
  obtain ⟨h4, h5, h6, h7⟩ := h
  refine ⟨h4, h5, fun e he => ?_, fun x hx => ?_⟩
  · obtain ⟨x, hx, hk, cs, hv, hr⟩ := h6 e he; exact ⟨x, hx, hk, cs, hv, hl _ _ _ hr⟩
  · obtain ⟨e, he, hk, cs, hv, hr⟩ := h7 x hx; exact ⟨e, he, hk, cs, hv, hl _ _ _ hr⟩
/-- What it handed out last. -/
def Cj (pk : List Value → Value) (es : Array MapEntry) (seen : Array Nat) (a : Str) (cs : List Value) : Prop :=
  ∃ (e0 : MapEntry) (s0 : Array Nat), e0 ∈ es.toList ∧ (es.toList.map (·.born)).Nodup ∧ seen = s0.push e0.born ∧ e0.key = vs a ∧ e0.val = pk cs
theorem Ops.mrangeO {kt et : TypeId} {r ck : Nat} {es : Array MapEntry} (i : Nat) (hM : Mr τ pk ζ es ck m) (hst : Ht w0 (frz ζ :: H) w) (hi : (frz ζ :: H)[i]? = some (ob r (.map es ck))) (hx : ev e x = some (.map (some r))) (hm : P.underlying xt = some (.map kt et)) (hn : Nat.blt d n.size = true)
    (h : ∀ g w', Mj τ pk ζ es ck #[] m → Ht w0 (frz ζ :: ob g (.mapIter (some r) ck #[] ck) :: H) w' → Ops P n Qf k ops rest ((d, .pointer (some ⟨g, 0, none⟩)) :: e) w') : Ops P n Qf k ops (⟨some d, .range xt x, T, pos, af, none⟩ :: rest) e w := by
  have hpush : ∀ o, Ht w0 (frz ζ :: ob w.heap.size o :: H) (w.alloc o) := fun o => (hst.newOb o).perm (by rw [List.cons_append]; exact List.Perm.cons _ List.perm_append_comm)
  have hr' : w.heap[r]? = some (.map es ck) := hst.get hi
  have hrun := run_range_map (P := P) w xt kt et r es ck hm hr'
  obtain ⟨h1, h2, h3, h4⟩ := hM
  refine Ops.val rfl rfl hn (fun c hc => ?_) (h w.heap.size _ ⟨h1, h2, fun e he => h3 e (mem_left.1 he).1, fun x hx => ?_⟩ (hpush _))
  · simp [execOp, hc _ _ hx, hrun]
  · obtain ⟨e, he, hm⟩ := h4 x hx
    exact ⟨e, mem_left.2 ⟨he, by simp⟩, hm⟩
theorem Ops.mnextO {r last g : Nat} {seen : Array Nat} {es : Array MapEntry} (i j : Nat) (hst : Ht w0 (frz ζ :: H) w) (hi : (frz ζ :: H)[i]? = some (ob g (.mapIter (some r) last seen last))) (hj : (frz ζ :: H)[j]? = some (ob r (.map es last))) (hM : Mj τ pk ζ es last seen m) (hx : ev e x = some (.pointer (some ⟨g, 0, none⟩))) (hn : Nat.blt d n.size = true)
    (h0 : m = [] → Ops P n Qf k ops rest ((d, .tuple #[.bool false]) :: e) w)
    (h1 : ∀ (a : Str × V) cs seen' w', a ∈ m → τ.R ζ cs a.2 → Cj pk es seen' a.1 cs → Mj τ pk ζ es last seen' (mdel m a.1) → Ht w0 ((frz ζ :: H).set i (ob g (.mapIter (some r) last seen' last))) w' → Ops P n Qf k ops rest ((d, .tuple #[.bool true, vs a.1, pk cs]) :: e) w') :
    Ops P n Qf k ops (⟨some d, .next x false, T, pos, af, none⟩ :: rest) e w := by
  have hg : w.heap[g]? = some (.mapIter (some r) last seen last) := hst.get hi
  obtain ⟨hS, hsrt, h6, h7⟩ := hM
  have hr' : w.heap[r]? = some (.map es last) := hst.get hj
  rcases run_next_at (P := P) w T g r last last seen es last hg hr' hS.1 (Nat.le_refl _) with ⟨hz, hrun⟩ | ⟨e0, he0, w1, hw1, hrun⟩
  · have hm0 : m = [] := by
      cases m with
      | nil => rfl
      | cons a m =>
        obtain ⟨e, he, _⟩ := h7 a (List.mem_cons_self ..)
        have : (leftOf es seen).toList = [] := List.eq_nil_of_length_eq_zero (by simpa using hz)
        rw [this] at he
        cases he
    refine Ops.val rfl rfl hn (fun c hc => ?_) (h0 hm0)
    simp [execOp, hc _ _ hx, hrun]
  · obtain ⟨a, ha, hk, cs, hv, hR⟩ := h6 e0 he0
    have hfr : Fr w (ChangeMaps.setBlock w1 g (.mapIter (some r) last (seen.push e0.born) last)) (fun k => k = g) := by
      have hw : w1.os = w.os ∧ w1.tape = w.tape ∧ w1.output = w.output ∧ w1.heap = w.heap := by rcases hw1 with rfl | rfl <;> exact ⟨rfl, rfl, rfl, rfl⟩
      refine ⟨hw.1, hw.2.1, hw.2.2.1, ?_, fun k _ hne => ?_⟩
      · show w.heap.size ≤ (w1.heap.setIfInBounds _ _).size
        simp [hw.2.2.2]
      · show (w1.heap.setIfInBounds _ _)[k]? = _
        rw [Array.getElem?_setIfInBounds_ne (Ne.symm hne), hw.2.2.2]
    have hlt := hst.lt hi (k := g) rfl
    have hst' := hst.upd i hi hfr (R' := ob g (.mapIter (some r) last (seen.push e0.born) last)) (by
      show (w1.heap.setIfInBounds _ _)[g]? = _
      have : w1.heap = w.heap := by rcases hw1 with rfl | rfl <;> rfl
      simp [this, hlt]) (fun k hk => ⟨.inl hk, by
      have hk' : k = g := hk
      subst hk'
      show k < (w1.heap.setIfInBounds _ _).size
      have : w1.heap = w.heap := by rcases hw1 with rfl | rfl <;> rfl
      simpa [this] using hlt⟩)
    have he0' := mem_left.1 he0
    refine Ops.val rfl rfl hn (fun c hc => ?_) (h1 a cs (seen.push e0.born) _ ha hR ⟨e0, seen, he0'.1, hS.2.1, rfl, hk, hv⟩ ⟨hS, hsrt.del a.1, fun e he => ?_, fun y hy => ?_⟩ hst')
    · simp [execOp, hc _ _ hx, hrun, hk, hv]
    · obtain ⟨he1, he2⟩ := mem_left.1 he
      simp only [Array.mem_push, not_or] at he2
      obtain ⟨y, hy, hmy⟩ := h6 e (mem_left.2 ⟨he1, he2.1⟩)
      refine ⟨y, mem_mdel.2 ⟨hy, fun hya => he2.2 ?_⟩, hmy⟩
      have hkk : e.key = e0.key := by rw [hmy.1, hya, hk]
      rw [nodup_inj hS.2.2 he1 he0'.1 hkk]
    · obtain ⟨hy, hne⟩ := mem_mdel.1 hy
      obtain ⟨e, he, hmy⟩ := h7 y hy
      obtain ⟨he1, he2⟩ := mem_left.1 he
      refine ⟨e, mem_left.2 ⟨he1, ?_⟩, hmy⟩
      simp only [Array.mem_push, not_or]
      refine ⟨he2, fun hb => hne ?_⟩
      have hee := nodup_inj hS.2.1 he1 he0'.1 hb
      subst hee
      exact vs_inj (hmy.1.symm.trans hk)
theorem Ops.mentryO {r last g : Nat} {seen : Array Nat} {es : Array MapEntry} {a : Str} {cs : List Value} {i j : Nat} (hst : Ht w0 (frz ζ :: H) w) (hi : (frz ζ :: H)[i]? = some (ob g (.mapIter (some r) last seen last))) (hj : (frz ζ :: H)[j]? = some (ob r (.map es last))) (hC : Cj pk es seen a cs) (hx : ev e x = some (.pointer (some ⟨g, 0, none⟩))) (hn : Nat.blt d n.size = true)
    (h : Ops P n Qf k ops rest ((d, .tuple #[vs a, pk cs]) :: e) w) : Ops P n Qf k ops (⟨some d, .entry x, T, pos, af, none⟩ :: rest) e w := by
  obtain ⟨e0, s0, he, hnd, rfl, hk, hv⟩ := hC
  have hg : w.heap[g]? = some (.mapIter (some r) last (s0.push e0.born) last) := hst.get hi
  have hr' : w.heap[r]? = some (.map es last) := hst.get hj
  have hrun := run_entry_at (P := P) w g r last s0 es last e0 hg hr' he hnd
  refine Ops.val rfl rfl hn (fun c hc => ?_) h
  simp [execOp, hc _ _ hx, hrun, hk, hv]
/-- Of a row of one's own that is nil. -/
theorem own_none {τ : Ty α} {A : Option Addr} {c E l : Nat} {xs : List α} {cells : List Value} {h : Zp} (hC : Cs τ ζ cells xs) (hl : xs.length = l) (hp : (orow E τ.sz (.slice A l c) l cells).p h) (hA : A = none) : xs = [] := by
  obtain ⟨_, _, h3⟩ := hp
  subst hA
  rcases h3 with ⟨he, hl0⟩ | ⟨g, o, cap, cur, he, _⟩
  · apply List.eq_nil_of_length_eq_zero
    omega
  · cases he
theorem run_convSl {t et : TypeId} {g o l c : Nat} {cur : Array Value} {E : TypeId} (ht : P.underlying t = some (.slice et)) (he : P.underlying et = some (.int .u8)) (hg : w.heap[g]? = some (.cells cur E (0, 0))) :
    (convert t t (.slice (some ⟨g, o, none⟩) l c)).run P w = .ok (.slice (some ⟨g, o, none⟩) l c) { w with heap := w.heap.setIfInBounds g (.cells cur E (cur.size, cur.size + 1)) } := by
  have hsh : w.shape? g = some (E, cur.size) := by
    unfold World.shape?
    rw [hg]
  have hfr : w.freeze ⟨g, cur.size, none⟩ 1 = { w with heap := w.heap.setIfInBounds g (.cells cur E (cur.size, cur.size + 1)) } := by
    unfold World.freeze
    rw [if_neg (by decide)]
    congr 1
    apply Array.ext_getElem?
    intro i
    rw [Array.getElem?_modify, Array.getElem?_setIfInBounds]
    by_cases h : g = i
    · subst h
      have hlt : g < w.heap.size := by
        rcases Nat.lt_or_ge g w.heap.size with h' | h'
        · exact h'
        · rw [Array.getElem?_eq_none h'] at hg; cases hg
      rw [if_pos rfl, if_pos rfl, if_pos hlt, hg]
      simp
    · rw [if_neg h, if_neg h]
  simp [convert, run_underlying ht, run_underlying he, markStringish, hsh]
  exact hfr
theorem Fr.toS {F G : Nat → Prop} (h : Fr w w' F) (hg : ∀ k, F k → G k) : Fr w w' G := ⟨h.os, h.tape, h.output, h.size, fun k hk hne => h.same k hk (fun hf => hne (hg k hf))⟩
/-- A row of bytes is turned to its own type: it stands still from here on. -/
theorem Ops.convC {t et E : TypeId} {A : Option Addr} {c l : Nat} {xs : List UInt8} {cells : List Value} (i : Nat) (hst : Ht w0 (frz ζ :: H) w) (hi : H[i]? = some (orow E 1 (.slice A l c) l cells)) (hC : Cs tU8 ζ cells xs) (hl : xs.length = l) (h0 : xs ≠ []) (hx : ev e x = some (.slice A l c)) (ht : P.underlying t = some (.slice et)) (he : P.underlying et = some (.int .u8)) (hn : Nat.blt d n.size = true)
    (h : ∀ ζ' w', Le ζ ζ' → Sl tU8 ζ' A c xs → Ht w0 (frz ζ' :: H.eraseIdx i) w' → Ops P n Qf k ops rest ((d, .slice A l c) :: e) w') : Ops P n Qf k ops (⟨some d, .convert t t x, T, pos, af, none⟩ :: rest) e w := by
  subst hl
  have hst1 : Ht w0 (frz ζ :: orow E 1 (.slice A xs.length c) xs.length cells :: H.eraseIdx i) w := (hst.up (i + 1) hi).swap
  have hp0 := hst1.get (i := 1) rfl
  obtain ⟨h1, h2, h3⟩ := hp0
  rcases h3 with ⟨he0, hl0⟩ | ⟨g, o, cap, cur, he0, hg, hc', hm', hsz, ht'⟩
  · exact absurd (List.eq_nil_of_length_eq_zero hl0) h0
  · have hA : A = some ⟨g, o, none⟩ ∧ c = cap := by simpa using he0
    obtain ⟨rfl, rfl⟩ := hA
    have hg' : w.heap[g]? = some (.cells cur E (0, 0)) := hg
    have hrun := run_convSl (P := P) (w := w) (o := o) (l := xs.length) (c := c) ht he hg'
    have hlt : g < w.heap.size := by
      rcases Nat.lt_or_ge g w.heap.size with h' | h'
      · exact h'
      · rw [Array.getElem?_eq_none h'] at hg'; cases hg'
    have hst2 := hst1.upd 1 rfl (R' := ob g (.cells cur E (cur.size, cur.size + 1))) (Fr.toS (setB_fr w g (.cells cur E (cur.size, cur.size + 1))) (fun k hk => by subst hk; rfl)) (by
      show (w.heap.setIfInBounds g _)[g]? = _
      simp [hlt]) (fun k hk => by
      have hk' : k = g := hk
      subst hk'
      exact ⟨.inl rfl, by simpa using hlt⟩)
    obtain ⟨ζ', hle, heq, hst3⟩ := St.freezeS hst2
    refine Ops.val rfl rfl hn (fun cc hc => ?_) (h ζ' _ hle ⟨hc', hm', cells, hC.mono hle, .inr ⟨g, o, rfl, fun j u hj => ?_⟩⟩ hst3)
    · simp [execOp, hc _ _ hx, hrun]
    · have h5 : ζ' g = some (.cells cur E (cur.size, cur.size + 1)) := by
        rw [heq g rfl]
        show (w.heap.setIfInBounds g _)[g]? = _
        simp [hlt]
      rw [← ht', List.getElem?_take] at hj
      split at hj
      · simp only [zc, h5]
        simpa [Nat.add_assoc] using hj
      · cases hj
/-- A call of a function that bears its first arguments with it. -/
theorem Ops.call1 {args : Array Operand} {tys : Array TypeId} {cal : Operand} {f : FuncId} {fn : Func} {vs : List Value} {fv cv : Array Value} {R : Ending → World → Prop} (hcal : ev e cal = some (.func (.func f) fv cv)) (hargs : evl e args.toList = some vs) (hf : P.funcs[f]? = some fn) (hname : (fn.name == "runtime.NumGoroutine") = false) (hb : fn.body.isNone = false)
    (hn : Nat.blt d n.size = true) (hc : Calls P f (fv ++ vs.toArray ++ cv) w R) (h : ∀ x w', R x w' → ∃ v, x = .returned v ∧ Ops P n Qf k ops rest ((d, v) :: e) w') : Ops P n Qf k ops (⟨some d, .call ⟨.value cal, args, tys⟩, T, pos, af, none⟩ :: rest) e w := by
  intro a ha
  unfold wpListIn
  rw [if_pos (by simp [Region.wanted])]
  have hρ : ∀ x v, ev e x = some v → a.eval x = v := fun x v hx => ha.eval hx
  have hrun : (execOp a.eval ⟨some d, .call ⟨.value cal, args, tys⟩, T, pos, af, none⟩).run P w = .ok (.enter f (fv ++ vs.toArray ++ cv)) w := by
    have h2 : args.map a.eval = vs.toArray := by
      have := evl_spec hρ hargs
      rw [← Array.toList_map] at this
      rw [← this]
    simp only [execOp, resolve, hρ _ _ hcal, h2]
    have hn' : ¬ fn.name = "runtime.NumGoroutine" := by simpa using hname
    have hb' : ¬ fn.body = none := fun h => by simp [h] at hb
    simp [Deferred.ofValue, invoke, callFunc, hf, hn', hb']
  refine ⟨fun _ _ => trivial, ?_⟩
  rw [Oper.semAt_eq _ _ _ (by intro c h; cases h), hrun, Oper.uponIn_enter]
  refine ⟨fun h => (by cases h), (callsW n.rd _ hc).mono fun x w' hR => ?_⟩
  obtain ⟨v, rfl, hv⟩ := h x w' hR
  exact hv _ (ha.put d hn v)
/-- One of a few functions. -/
def fnV (L : List (Nat × Array Value × Array Value)) (x : Nat) : Value := match L[x]? with
  | some (f, a, c) => .func (.func f) a c
  | none => .nilFunc
def tFnL (L : List (Nat × Array Value × Array Value)) : Ty Nat := tOf (fnV L) (fun x => by unfold fnV; split <;> rfl)
/-- maps.Clone's block. -/
theorem St.cloneM {ck : Nat} {es : Array MapEntry} (hst : Ht w0 (R0 :: H) w) : Ht w0 (R0 :: ob w.heap.size (.map es ck) :: H) (w.alloc (.map es ck)) :=
  (hst.newOb (.map es ck)).perm (by rw [List.cons_append]; exact List.Perm.cons _ List.perm_append_comm)
end
end Go.Proofs.YtfomkndngnfneaaDoor.Sx
