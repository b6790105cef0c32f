/- Part O of the second layer: a range over a map that stands still. -/
import Derived.Test.YtfomkndngnfneaaDoorGnN
namespace Go.Proofs.YtfomkndngnfneaaDoor.Sx
open Go Go.RowKit
set_option linter.unusedVariables false
set_option linter.unusedSimpArgs false
section
variable {P : Program} {n : Fm} {Qf : Exit → Act → World → Prop} {k : List It} {e : Env} {w w' w0 : World} {H : List Res} {R R0 : Res} {ζ ζ' : Zp} {ops : Array Oper} {rest : List Oper} {T : TypeId} {pos : String} {af : Array Edge} {d : Nat} {V : Type} {xt yt : TypeId} {x y v : Operand}
variable {τ : Ty V} {pk : List Value → Value} {m : Mp V}
/-- What an iterator has still to hand out. -/
def Mi (τ : Ty V) (pk : List Value → Value) (ζ : Zp) (A : Option Nat) (since : Nat) (seen : Array Nat) (last : Nat) (m : Mp V) : Prop :=
  (A = none ∧ m = []) ∨ ∃ r es, A = some r ∧ ζ r = some (.map es since) ∧ last = since ∧ MapKept.Stamped es since ∧ Srt m ∧ (∀ e ∈ (leftOf es seen).toList, ∃ x ∈ m, Me τ pk ζ e x) ∧ (∀ x ∈ m, ∃ e ∈ (leftOf es seen).toList, Me τ pk ζ e x)
theorem Mi.mono {A : Option Nat} {since last : Nat} {seen : Array Nat} (h : Mi τ pk ζ A since seen last m) (hl : Le ζ ζ') : Mi τ pk ζ' A since seen last m := by
  rcases h with h | ⟨r, es, h1, h2, h3, h4, h5, h6, h7⟩
  · exact .inl h
  · refine .inr ⟨r, es, h1, hl _ _ h2, h3, h4, h5, fun e he => ?_, fun x hx => ?_⟩
    · obtain ⟨x, hx, hm⟩ := h6 e he; exact ⟨x, hx, hm.mono hl⟩
    · obtain ⟨e, he, hm⟩ := h7 x hx; exact ⟨e, he, hm.mono hl⟩
theorem Mi.srt {A : Option Nat} {since last : Nat} {seen : Array Nat} (h : Mi τ pk ζ A since seen last m) : Srt m := by
  rcases h with ⟨_, rfl⟩ | ⟨r, es, h1, h2, h3, h4, h5, h6, h7⟩
  · exact Srt.nil
  · exact h5
/-- What it handed out last. -/
def Cu (pk : List Value → Value) (ζ : Zp) (A : Option Nat) (since : Nat) (seen : Array Nat) (last : Nat) (a : Str) (cs : List Value) : Prop :=
  ∃ (r : Nat) (es : Array MapEntry) (e0 : MapEntry) (s0 : Array Nat), A = some r ∧ ζ r = some (.map es since) ∧ last = since ∧ e0 ∈ es.toList ∧ (es.toList.map (·.born)).Nodup ∧ seen = s0.push e0.born ∧ e0.key = vs a ∧ e0.val = pk cs
theorem mem_left {es : Array MapEntry} {seen : Array Nat} {e : MapEntry} : e ∈ (leftOf es seen).toList ↔ e ∈ es.toList ∧ e.born ∉ seen := by
  unfold leftOf
  simp
theorem Ops.mrange {kt et : TypeId} {A : Option Nat} (hM : Mz τ pk ζ A m) (hst : Ht w0 (frz ζ :: H) w) (hx : ev e x = some (.map A)) (hm : P.underlying xt = some (.map kt et)) (hn : Nat.blt d n.size = true)
    (h : ∀ g s w', Mi τ pk ζ A s #[] s m → Ht w0 (frz ζ :: ob g (.mapIter A s #[] s) :: H) w' → Ops P n Qf k ops rest ((d, .pointer (some ⟨g, 0, none⟩)) :: e) w') : Ops P n Qf k ops (⟨some d, .range xt x, T, pos, af, none⟩ :: rest) e w := by
  have hpush : ∀ o, Ht w0 (frz ζ :: ob w.heap.size o :: H) (w.alloc o) := fun o => (hst.newOb o).perm (by rw [List.cons_append]; exact List.Perm.cons _ List.perm_append_comm)
  rcases hM with ⟨rfl, rfl⟩ | ⟨r, es, ck, rfl, hr, hMr⟩
  · have hrun := run_range_nilMap (P := P) w xt kt et hm
    refine Ops.val rfl rfl hn (fun c hc => ?_) (h w.heap.size 0 _ (.inl ⟨rfl, rfl⟩) (hpush _))
    simp [execOp, hc _ _ hx, hrun]
  · have hr' : w.heap[r]? = some (.map es ck) := hst.le _ _ hr
    have hrun := run_range_map (P := P) w xt kt et r es ck hm hr'
    obtain ⟨h1, h2, h3, h4⟩ := hMr
    refine Ops.val rfl rfl hn (fun c hc => ?_) (h w.heap.size ck _ (.inr ⟨r, es, rfl, hr, rfl, h1, h2, fun e he => h3 e (mem_left.1 he).1, fun x hx => ?_⟩) (hpush _))
    · simp [execOp, hc _ _ hx, hrun]
    · obtain ⟨e, he, hm⟩ := h4 x hx
      exact ⟨e, mem_left.2 ⟨he, by simp⟩, hm⟩
theorem Ops.mnext {A : Option Nat} {since last g : Nat} {seen : Array Nat} (i : Nat) (hst : Ht w0 (frz ζ :: H) w) (hi : (frz ζ :: H)[i]? = some (ob g (.mapIter A since seen last))) (hM : Mi τ pk ζ A since seen last m) (hx : ev e x = some (.pointer (some ⟨g, 0, none⟩))) (hn : Nat.blt d n.size = true)
    (h0 : m = [] → Ops P n Qf k ops rest ((d, .tuple #[.bool false]) :: e) w)
    (h1 : ∀ (a : Str × V) cs seen' w', a ∈ m → τ.R ζ cs a.2 → Cu pk ζ A since seen' last a.1 cs → Mi τ pk ζ A since seen' last (mdel m a.1) → Ht w0 ((frz ζ :: H).set i (ob g (.mapIter A since seen' last))) w' → Ops P n Qf k ops rest ((d, .tuple #[.bool true, vs a.1, pk cs]) :: e) w') :
    Ops P n Qf k ops (⟨some d, .next x false, T, pos, af, none⟩ :: rest) e w := by
  have hg : w.heap[g]? = some (.mapIter A since seen last) := hst.get hi
  rcases hM with ⟨rfl, rfl⟩ | ⟨r, es, rfl, hr, rfl, hS, hsrt, h6, h7⟩
  · refine Ops.val rfl rfl hn (fun c hc => ?_) (h0 rfl)
    simp only [execOp, hc _ _ hx, Instr.next, getObj, Sem.run_bind, Sem.run, hg, Result.andThen]
    rfl
  · have hr' : w.heap[r]? = some (.map es last) := hst.le _ _ hr
    rcases run_next_at (P := P) w T g r last last seen es last hg hr' hS.1 (Nat.le_refl _) with ⟨hz, hrun⟩ | ⟨e0, he0, w1, hw1, hrun⟩
    · have hm0 : m = [] := by
        cases m with
        | nil => rfl
        | cons a m =>
          obtain ⟨e, he, _⟩ := h7 a (List.mem_cons_self ..)
          have : (leftOf es seen).toList = [] := List.eq_nil_of_length_eq_zero (by simpa using hz)
          rw [this] at he
          cases he
      refine Ops.val rfl rfl hn (fun c hc => ?_) (h0 hm0)
      simp [execOp, hc _ _ hx, hrun]
    · obtain ⟨a, ha, hk, cs, hv, hR⟩ := h6 e0 he0
      have hfr : Fr w (ChangeMaps.setBlock w1 g (.mapIter (some r) last (seen.push e0.born) last)) (fun k => k = g) := by
        have hw : w1.os = w.os ∧ w1.tape = w.tape ∧ w1.output = w.output ∧ w1.heap = w.heap := by rcases hw1 with rfl | rfl <;> exact ⟨rfl, rfl, rfl, rfl⟩
        refine ⟨hw.1, hw.2.1, hw.2.2.1, ?_, fun k _ hne => ?_⟩
        · show w.heap.size ≤ (w1.heap.setIfInBounds _ _).size
          simp [hw.2.2.2]
        · show (w1.heap.setIfInBounds _ _)[k]? = _
          rw [Array.getElem?_setIfInBounds_ne (Ne.symm hne), hw.2.2.2]
      have hlt := hst.lt hi (k := g) rfl
      have hst' := hst.upd i hi hfr (R' := ob g (.mapIter (some r) last (seen.push e0.born) last)) (by
        show (w1.heap.setIfInBounds _ _)[g]? = _
        have : w1.heap = w.heap := by rcases hw1 with rfl | rfl <;> rfl
        simp [this, hlt]) (fun k hk => ⟨.inl hk, by
        have hk' : k = g := hk
        subst hk'
        show k < (w1.heap.setIfInBounds _ _).size
        have : w1.heap = w.heap := by rcases hw1 with rfl | rfl <;> rfl
        simpa [this] using hlt⟩)
      have he0' := mem_left.1 he0
      refine Ops.val rfl rfl hn (fun c hc => ?_) (h1 a cs (seen.push e0.born) _ ha hR ⟨r, es, e0, seen, rfl, hr, rfl, he0'.1, hS.2.1, rfl, hk, hv⟩ (.inr ⟨r, es, rfl, hr, rfl, hS, hsrt.del a.1, fun e he => ?_, fun y hy => ?_⟩) hst')
      · simp [execOp, hc _ _ hx, hrun, hk, hv]
      · obtain ⟨he1, he2⟩ := mem_left.1 he
        simp only [Array.mem_push, not_or] at he2
        obtain ⟨y, hy, hmy⟩ := h6 e (mem_left.2 ⟨he1, he2.1⟩)
        refine ⟨y, mem_mdel.2 ⟨hy, fun hya => he2.2 ?_⟩, hmy⟩
        have hkk : e.key = e0.key := by rw [hmy.1, hya, hk]
        rw [nodup_inj hS.2.2 he1 he0'.1 hkk]
      · obtain ⟨hy, hne⟩ := mem_mdel.1 hy
        obtain ⟨e, he, hmy⟩ := h7 y hy
        obtain ⟨he1, he2⟩ := mem_left.1 he
        refine ⟨e, mem_left.2 ⟨he1, ?_⟩, hmy⟩
        simp only [Array.mem_push, not_or]
        refine ⟨he2, fun hb => hne ?_⟩
        have hee := nodup_inj hS.2.1 he1 he0'.1 hb
        subst hee
        exact vs_inj (hmy.1.symm.trans hk)
theorem Ops.mentry {A : Option Nat} {since last g : Nat} {seen : Array Nat} {a : Str} {cs : List Value} {i : Nat} (hst : Ht w0 (frz ζ :: H) w) (hi : (frz ζ :: H)[i]? = some (ob g (.mapIter A since seen last))) (hC : Cu pk ζ A since seen last a cs) (hx : ev e x = some (.pointer (some ⟨g, 0, none⟩))) (hn : Nat.blt d n.size = true)
    (h : Ops P n Qf k ops rest ((d, .tuple #[vs a, pk cs]) :: e) w) : Ops P n Qf k ops (⟨some d, .entry x, T, pos, af, none⟩ :: rest) e w := by
  obtain ⟨r, es, e0, s0, rfl, hr, rfl, he, hnd, rfl, hk, hv⟩ := hC
  have hg : w.heap[g]? = some (.mapIter (some r) last (s0.push e0.born) last) := hst.get hi
  have hr' : w.heap[r]? = some (.map es last) := hst.le _ _ hr
  have hrun := run_entry_at (P := P) w g r last s0 es last e0 hg hr' he hnd
  refine Ops.val rfl rfl hn (fun c hc => ?_) h
  simp [execOp, hc _ _ hx, hrun, hk, hv]
end
end Go.Proofs.YtfomkndngnfneaaDoor.Sx
