/- Part T of the second layer: maps whose keys are pointers into an arena. -/
import Derived.LaidEqlPtr
import Derived.Test.YtfomkndngnfneaaDoorGnQ
namespace Go.Proofs.YtfomkndngnfneaaDoor.Sx
open Go Go.RowKit
set_option linter.unusedVariables false
set_option linter.unusedSimpArgs false
section
variable {P : Program} {w : World}
/-- A plain block. -/
def Pb (w : World) (g : Nat) : Prop := ∃ c T, w.heap[g]? = some (.cells c T (0, 0))
theorem run_eqPtr {kt te : TypeId} {j : TypeInfo} {g g' : Nat} (hp : P.underlying kt = some (.pointer te)) (hte : P.info? te = some j) (hsz : j.size ≠ 0) (h : Pb w g) (h' : Pb w g') : (Op.equal kt (.pointer (some ⟨g, 0, none⟩)) (.pointer (some ⟨g', 0, none⟩))).run P w = .ok (decide (g = g')) w := by
  obtain ⟨c, T, h⟩ := h
  obtain ⟨c', T', h'⟩ := h'
  have hk : ∀ d : Nat, (Op.equalIn (d + 1) kt (.pointer (some ⟨g, 0, none⟩)) (.pointer (some ⟨g', 0, none⟩))).run P w = .ok (decide (g = g')) w := fun d => by
    by_cases he : g = g'
    · subst he
      simp [Op.equalIn, run_underlying hp, sizeOf, typeInfo, hte, hsz, run_sameAddr_same]
    · have hne : (⟨g, 0, none⟩ : Addr) ≠ ⟨g', 0, none⟩ := fun h => he (Addr.mk.inj h).1
      simp [Op.equalIn, run_underlying hp, sizeOf, typeInfo, hte, hsz, run_sameAddr_other w hne h h', he]
  exact hk 9999
theorem findAsk {kt te : TypeId} {j : TypeInfo} {g : Nat} (hp : P.underlying kt = some (.pointer te)) (hte : P.info? te = some j) (hsz : j.size ≠ 0) (h : Pb w g) : ∀ (l : List MapEntry) (i : Nat), (∀ e ∈ l, ∃ g', e.key = .pointer (some ⟨g', 0, none⟩) ∧ Pb w g') →
    ((Instr.findAsking kt (.pointer (some ⟨g, 0, none⟩)) l i).run P w = .ok none w ∧ ∀ e ∈ l, e.key ≠ .pointer (some ⟨g, 0, none⟩)) ∨ ∃ q e, (Instr.findAsking kt (.pointer (some ⟨g, 0, none⟩)) l i).run P w = .ok (some (i + q, e.val)) w ∧ l[q]? = some e ∧ e.key = .pointer (some ⟨g, 0, none⟩)
  | [], i, _ => .inl ⟨rfl, fun e he => by cases he⟩
  | e :: l, i, hl => by
    obtain ⟨g', hk, hb⟩ := hl e (List.mem_cons_self ..)
    have hq := run_eqPtr (P := P) hp hte hsz h hb
    by_cases he : g = g'
    · subst he
      refine .inr ⟨0, e, ?_, rfl, hk⟩
      simp [Instr.findAsking, hk, hq, Result.andThen]
    · have hne : e.key ≠ .pointer (some ⟨g, 0, none⟩) := fun h => he (by rw [hk] at h; simpa using h.symm)
      rcases findAsk hp hte hsz h l (i + 1) (fun e he => hl e (List.mem_cons_of_mem _ he)) with ⟨h1, h2⟩ | ⟨q, e2, h1, h2, h3⟩
      · refine .inl ⟨?_, fun x hx => ?_⟩
        · simp [Instr.findAsking, hk, hq, he, h1, Result.andThen]
        · rcases List.mem_cons.1 hx with rfl | hx
          · exact hne
          · exact h2 x hx
      · refine .inr ⟨q + 1, e2, ?_, by simpa using h2, h3⟩
        have : i + (q + 1) = i + 1 + q := by omega
        rw [this]
        simp [Instr.findAsking, hk, hq, he, h1, Result.andThen]
theorem findPtr {kt te : TypeId} {j : TypeInfo} {g : Nat} (hp : P.underlying kt = some (.pointer te)) (hte : P.info? te = some j) (hsz : j.size ≠ 0) (h : Pb w g) (l : List MapEntry) (hl : ∀ e ∈ l, ∃ g', e.key = .pointer (some ⟨g', 0, none⟩) ∧ Pb w g') :
    ((Instr.findKey kt (.pointer (some ⟨g, 0, none⟩)) l).run P w = .ok none w ∧ ∀ e ∈ l, e.key ≠ .pointer (some ⟨g, 0, none⟩)) ∨ ∃ q e, (Instr.findKey kt (.pointer (some ⟨g, 0, none⟩)) l).run P w = .ok (some (q, e.val)) w ∧ l[q]? = some e ∧ e.key = .pointer (some ⟨g, 0, none⟩) := by
  cases l with
  | nil => exact .inl ⟨by simp [Instr.findKey, run_underlying hp, Instr.findNow, Result.andThen], fun e he => by cases he⟩
  | cons e l =>
    obtain ⟨g', hk, hb⟩ := hl e (List.mem_cons_self ..)
    have hn : Instr.findNow (.pointer te) (.pointer (some ⟨g, 0, none⟩)) (e :: l) 0 = none := by
      simp [Instr.findNow, Instr.sameNow]
    have hf : (Instr.findKey kt (.pointer (some ⟨g, 0, none⟩)) (e :: l)).run P w = (Instr.findAsking kt (.pointer (some ⟨g, 0, none⟩)) (e :: l) 0).run P w := by
      simp [Instr.findKey, run_underlying hp, hn, Result.andThen]
    rw [hf]
    rcases findAsk hp hte hsz h (e :: l) 0 hl with h1 | ⟨q, e2, h1, h2, h3⟩
    · exact .inl h1
    · exact .inr ⟨q, e2, by simpa using h1, h2, h3⟩
variable {n : Fm} {Qf : Exit → Act → World → Prop} {k : List It} {e : Env} {w' w0 : World} {H : List Res} {R R0 : Res} {ζ ζ' : Zp} {ops : Array Oper} {rest : List Oper} {T : TypeId} {pos : String} {af : Array Edge} {d : Nat} {α : Type} {xt yt : TypeId} {x y v : Operand}
variable {Γ Γ' : List Nat} {S : List Nat} {es : Array MapEntry} {ck : Nat}
/-- A pointer's value. -/
abbrev vp (g : Nat) : Value := .pointer (some ⟨g, 0, none⟩)
/-- The entries are the pointers to these. -/
def Ms (Γ : List Nat) (es : Array MapEntry) (ck : Nat) (S : List Nat) : Prop :=
  MapKept.Stamped es ck ∧ (∀ e ∈ es.toList, ∃ i g, i ∈ S ∧ Γ[i]? = some g ∧ e.key = vp g ∧ e.val = .bool true) ∧ ∀ i ∈ S, ∃ g, Γ[i]? = some g ∧ ∃ e ∈ es.toList, e.key = vp g ∧ e.val = .bool true
theorem Ms.nil (Γ : List Nat) : Ms Γ #[] 0 [] := ⟨MapKept.stamped_empty 0, fun e he => by simp at he, fun i hi => by cases hi⟩
theorem Ms.mono (h : Ms Γ es ck S) (_ : Le ζ ζ') : Ms Γ es ck S := h
theorem Ms.up (h : Ms Γ es ck S) (hl : Γ <+: Γ') : Ms Γ' es ck S := by
  obtain ⟨h1, h2, h3⟩ := h
  refine ⟨h1, fun e he => ?_, fun i hi => ?_⟩
  · obtain ⟨i, g, hi, hg, hk⟩ := h2 e he; exact ⟨i, g, hi, get_pre hl hg, hk⟩
  · obtain ⟨g, hg, hk⟩ := h3 i hi; exact ⟨g, get_pre hl hg, hk⟩
theorem nodup_at {i j g : Nat} (hn : Γ.Nodup) (hi : Γ[i]? = some g) (hj : Γ[j]? = some g) : i = j := by
  obtain ⟨h1, h2⟩ := List.getElem?_eq_some_iff.1 hi
  obtain ⟨h3, h4⟩ := List.getElem?_eq_some_iff.1 hj
  have hp := List.pairwise_iff_getElem.1 hn
  rcases Nat.lt_trichotomy i j with h | h | h
  · exact absurd (h2.trans h4.symm) (hp i j h1 h3 h)
  · exact h
  · exact absurd (h4.trans h2.symm) (hp j i h3 h1 h)
theorem vp_inj {g g' : Nat} (h : vp g = vp g') : g = g' := by simpa [vp] using h
theorem Ms.keys (h : Ms Γ es ck S) (hb : ∀ g ∈ Γ, Pb w g) : ∀ e ∈ es.toList, ∃ g', e.key = .pointer (some ⟨g', 0, none⟩) ∧ Pb w g' := fun e he => by
  obtain ⟨i, g, _, hg, hk, _⟩ := h.2.1 e he
  exact ⟨g, hk, hb g (List.mem_of_getElem? hg)⟩
theorem szNZ {te : TypeId} {sz : Nat} (h : (P.info? te).map (·.size) = some (sz + 1)) : ∃ tj, P.info? te = some tj ∧ tj.size ≠ 0 := by
  cases hi : P.info? te with
  | none => rw [hi] at h; cases h
  | some tj =>
    rw [hi] at h
    simp only [Option.map_some, Option.some.injEq] at h
    exact ⟨tj, rfl, by omega⟩
/-- m[p] -/
theorem Ops.plook {kt et te : TypeId} {sz : Nat} {r i g : Nat} {A : Option Addr} (hM : Ms Γ es ck S) (hn0 : Γ.Nodup) (hb : ∀ g ∈ Γ, Pb w g) (hr : w.heap[r]? = some (.map es ck)) (hi : Γ[i]? = some g) (hA : A = some ⟨g, 0, none⟩) (hx : ev e x = some (.map (some r))) (hy : ev e y = some (.pointer A)) (hm : P.underlying xt = some (.map kt et)) (hk : P.underlying kt = some (.pointer te)) (hs0 : (P.info? te).map (·.size) = some (sz + 1)) (hz : (P.info? et).map (·.zero) = some (some (.bool false))) (hn : Nat.blt d n.size = true)
    (h : Ops P n Qf k ops rest ((d, .bool (decide (i ∈ S))) :: e) w) : Ops P n Qf k ops (⟨some d, .lookup xt x y false, T, pos, af, none⟩ :: rest) e w := by
  subst hA
  obtain ⟨tj, hte, hsz⟩ := szNZ hs0
  have hzv : (zeroValue et).run P w = .ok (.bool false) w := by
    cases hi : P.info? et with
    | none => rw [hi] at hz; cases hz
    | some i =>
      rw [hi] at hz
      simp only [Option.map_some, Option.some.injEq] at hz
      simp [zeroValue, typeInfo, hi, hz]
  have ho := MapKept.run_getObj_map (P := P) hr
  have hck : ∀ b, (Instr.checkKey b 10000 kt (vp g)).run P w = .ok () w := fun b => by
    unfold Instr.checkKey
    simp only [Sem.run_bind, run_underlying hk, Result.andThen]
    rfl
  have hrun : (Instr.lookup xt (.map (some r)) (vp g) false).run P w = .ok (.bool (decide (i ∈ S))) w := by
    rcases findPtr hk hte hsz (hb g (List.mem_of_getElem? hi)) es.toList (hM.keys hb) with ⟨h1, h2⟩ | ⟨q, e0, h1, h2, h3⟩
    · have hni : i ∉ S := fun hS => by
        obtain ⟨g', hg', e1, he1, hk1, _⟩ := hM.2.2 i hS
        rw [hi] at hg'
        cases hg'
        exact h2 e1 he1 hk1
      simp [Instr.lookup, run_underlying hm, ho, hck, h1, hzv, hni, Result.andThen]
    · obtain ⟨j, g', hj, hg', hk', hv'⟩ := hM.2.1 e0 (List.mem_of_getElem? h2)
      have hgg : g' = g := vp_inj (hk'.symm.trans h3)
      subst hgg
      have hij := nodup_at hn0 hi hg'
      subst hij
      simp [Instr.lookup, run_underlying hm, ho, hck, h1, hv', hj, Result.andThen]
  refine Ops.val rfl rfl hn (fun c hc => ?_) h
  simp [execOp, hc _ _ hx, hc _ _ hy, hrun]
/-- m[p] = true -/
theorem Ops.pput {kt et te : TypeId} {sz : Nat} {r i g : Nat} {A : Option Addr} (q : Nat) (hst : Ht w0 H w) (hq : H[q]? = some (ob r (.map es ck))) (hM : Ms Γ es ck S) (hn0 : Γ.Nodup) (hb : ∀ g ∈ Γ, Pb w g) (hi : Γ[i]? = some g) (hA : A = some ⟨g, 0, none⟩) (hx : ev e x = some (.map (some r))) (hy : ev e y = some (.pointer A)) (hv : ev e v = some (.bool true)) (hm : P.underlying xt = some (.map kt et)) (hk : P.underlying kt = some (.pointer te)) (hs0 : (P.info? te).map (·.size) = some (sz + 1))
    (h : ∀ es' ck' w', Ms Γ es' ck' (i :: S) → Ht w0 (H.set q (ob r (.map es' ck'))) w' → Ops P n Qf k ops rest e w') : Ops P n Qf k ops (⟨none, .mapUpdate xt x y v, T, pos, af, none⟩ :: rest) e w := by
  subst hA
  obtain ⟨tj, hte, hsz⟩ := szNZ hs0
  have hr : w.heap[r]? = some (.map es ck) := hst.get hq
  have ho := MapKept.run_getObj_map (P := P) hr
  have hck : ∀ b, (Instr.checkKey b 10000 kt (vp g)).run P w = .ok () w := fun b => by
    unfold Instr.checkKey
    simp only [Sem.run_bind, run_underlying hk, Result.andThen]
    rfl
  obtain ⟨m1, m2, m3⟩ := hM
  rcases findPtr hk hte hsz (hb g (List.mem_of_getElem? hi)) es.toList (Ms.keys ⟨m1, m2, m3⟩ hb) with ⟨h1, h2⟩ | ⟨j, e0, h1, h2, h3⟩
  · have hs := MapKept.run_setObj_map (P := P) (Obj.map (es.push { key := vp g, val := .bool true, born := ck }) (ck + 1)) hr
    refine Ops.unit rfl rfl (fun c hc => ?_) (h (es.push { key := vp g, val := .bool true, born := ck }) (ck + 1) _ ⟨MapKept.stamped_push m1 h2, fun e1 he => ?_, fun i1 hi1 => ?_⟩ (hst.setB q hq _))
    · simp [execOp, hc _ _ hx, hc _ _ hy, hc _ _ hv, Instr.mapUpdate, run_underlying hm, ho, hck, h1, hs]
    · simp only [Array.toList_push, List.mem_append, List.mem_singleton] at he
      rcases he with he | rfl
      · obtain ⟨i2, g2, q1, q2⟩ := m2 e1 he
        exact ⟨i2, g2, List.mem_cons_of_mem _ q1, q2⟩
      · exact ⟨i, g, List.mem_cons_self .., hi, rfl, rfl⟩
    · rcases List.mem_cons.1 hi1 with rfl | hi1
      · exact ⟨g, hi, { key := vp g, val := .bool true, born := ck }, by simp, rfl, rfl⟩
      · obtain ⟨g2, q1, e2, q2, q3⟩ := m3 i1 hi1
        exact ⟨g2, q1, e2, by simp at q2 ⊢; exact .inl q2, q3⟩
  · have hkt : (Instr.keyThatStays (vp g) (vp g)).run P w = .ok (vp g) w := by
      simp [Instr.keyThatStays, Instr.sameBits, vp]
    have h2' : es[j]? = some e0 := by simpa using h2
    have hs := MapKept.run_setObj_map (P := P) (Obj.map (es.modify j fun e => { e with key := vp g, val := .bool true }) ck) hr
    refine Ops.unit rfl rfl (fun c hc => ?_) (h (es.modify j fun e => { e with key := vp g, val := .bool true }) ck _ ⟨MapKept.stamped_modify m1 j (fun e => { e with key := vp g, val := .bool true }) (fun _ _ => rfl) (fun e' _ he' => by rw [h2'] at he'; cases he'; exact h3.symm), fun e1 he => ?_, fun i1 hi1 => ?_⟩ (hst.setB q hq _))
    · simp [execOp, hc _ _ hx, hc _ _ hy, hc _ _ hv, Instr.mapUpdate, run_underlying hm, ho, hck, h1, h2', h3, hkt, hs]
    · rcases (mem_modify m1.2.2 h2' e1).1 he with rfl | ⟨he, hne⟩
      · exact ⟨i, g, List.mem_cons_self .., hi, rfl, rfl⟩
      · obtain ⟨i2, g2, q1, q2⟩ := m2 e1 he
        exact ⟨i2, g2, List.mem_cons_of_mem _ q1, q2⟩
    · have key : ∀ g2, (∃ e2 ∈ es.toList, e2.key = vp g2 ∧ e2.val = .bool true) → ∃ e2 ∈ (es.modify j fun e => { e with key := vp g, val := .bool true }).toList, e2.key = vp g2 ∧ e2.val = .bool true := by
        rintro g2 ⟨e2, q2, q3, q4⟩
        by_cases hg2 : g2 = g
        · subst hg2
          exact ⟨_, (mem_modify m1.2.2 h2' _).2 (.inl rfl), rfl, rfl⟩
        · exact ⟨e2, (mem_modify m1.2.2 h2' e2).2 (.inr ⟨q2, fun hk2 => hg2 (vp_inj (by rw [← q3, hk2, h3]))⟩), q3, q4⟩
      rcases List.mem_cons.1 hi1 with rfl | hi1
      · exact ⟨g, hi, _, (mem_modify m1.2.2 h2' _).2 (.inl rfl), rfl, rfl⟩
      · obtain ⟨g2, q1, q2⟩ := m3 i1 hi1
        exact ⟨g2, q1, key g2 q2⟩
/-- The blocks of an arena are plain, and no two are one. -/
theorem ArL.plain {O : Zp → Nat → α → List Res → Prop} (hO : ∀ ζ g a rs, O ζ g a rs → ∃ c T, blk g c T ∈ rs) : ∀ {Γ : List Nat} {A : List α} {Ha : List Res}, ArL O ζ Γ A Ha → (∀ R ∈ Ha, R.p (hp w)) → Ha.Pairwise (fun R R' => ∀ k, R.S k → ¬ R'.S k) → Γ.Nodup ∧ (∀ g ∈ Γ, Pb w g) ∧ ∀ g ∈ Γ, ∃ R ∈ Ha, R.S g
  | [], [], _, _, _, _ => ⟨List.nodup_nil, fun g hg => (by cases hg), fun g hg => (by cases hg)⟩
  | g :: Γ, a :: A, Ha, ⟨rs, Hr, h1, h2, h3⟩, hp', hd => by
    have hd2 := (h3.pairwise_iff (fun {x y} hxy k hy hx => hxy k hx hy)).1 hd
    obtain ⟨d1, d2, d3⟩ := List.pairwise_append.1 hd2
    obtain ⟨i1, i2, i3⟩ := ArL.plain hO h2 (fun R hR => hp' R (h3.mem_iff.2 (List.mem_append_right _ hR))) d2
    obtain ⟨c, T, hm⟩ := hO _ _ _ _ h1
    have hb : Pb w g := ⟨_, _, hp' _ (h3.mem_iff.2 (List.mem_append_left _ hm))⟩
    refine ⟨List.nodup_cons.2 ⟨fun hg => ?_, i1⟩, fun g' hg' => ?_, fun g' hg' => ?_⟩
    · obtain ⟨R, hR, hS⟩ := i3 g hg
      exact d3 _ hm R hR g rfl hS
    · rcases List.mem_cons.1 hg' with rfl | hg'
      · exact hb
      · exact i2 g' hg'
    · rcases List.mem_cons.1 hg' with rfl | hg'
      · exact ⟨_, h3.mem_iff.2 (List.mem_append_left _ hm), rfl⟩
      · obtain ⟨R, hR, hS⟩ := i3 g' hg'
        exact ⟨R, h3.mem_iff.2 (List.mem_append_right _ hR), hS⟩
  | [], _ :: _, _, h, _, _ => h.elim
  | _ :: _, [], _, h, _, _ => h.elim
theorem St.plain {O : Zp → Nat → α → List Res → Prop} {A : List α} {Ha X B : List Res} (hO : ∀ ζ g a rs, O ζ g a rs → ∃ c T, blk g c T ∈ rs) (hA : ArL O ζ Γ A Ha) (hst : Ht w0 (frz ζ' :: (B ++ (Ha ++ X))) w) : Γ.Nodup ∧ ∀ g ∈ Γ, Pb w g := by
  have hsub : Ha.Sublist (frz ζ' :: (B ++ (Ha ++ X))) := ((List.sublist_append_left Ha X).trans (List.sublist_append_right B _)).cons _
  have h := ArL.plain (w := w) (ζ := ζ) hO hA (fun R hR => hst.hold R (hsub.subset hR)) (hst.dis.sublist hsub)
  exact ⟨h.1, h.2.1⟩
end
end Go.Proofs.YtfomkndngnfneaaDoor.Sx
