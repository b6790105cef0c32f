/- Part N of the second layer: maps in memory. -/
import Derived.Test.YtfomkndngnfneaaDoorGnM
namespace Go.Proofs.YtfomkndngnfneaaDoor.Sx
open Go Go.RowKit
set_option linter.unusedVariables false
set_option linter.unusedSimpArgs false
section
variable {P : Program} {n : Fm} {Qf : Exit → Act → World → Prop} {k : List It} {e : Env} {w w' w0 : World} {H : List Res} {R R0 : Res} {ζ ζ' : Zp} {ops : Array Oper} {rest : List Oper} {T : TypeId} {pos : String} {af : Array Edge} {d : Nat} {V : Type} {xt yt : TypeId} {x y v : Operand}
variable {τ : Ty V} {pk : List Value → Value} {m : Mp V} {es : Array MapEntry} {ck : Nat}
/-- The value of an element's cells. -/
abbrev pkA (cs : List Value) : Value := .agg cs.toArray
abbrev pk1 (cs : List Value) : Value := cs.headD undef
/-- An entry is this pair. -/
def Me (τ : Ty V) (pk : List Value → Value) (ζ : Zp) (e : MapEntry) (x : Str × V) : Prop := e.key = vs x.1 ∧ ∃ cs, e.val = pk cs ∧ τ.R ζ cs x.2
def Mr (τ : Ty V) (pk : List Value → Value) (ζ : Zp) (es : Array MapEntry) (ck : Nat) (m : Mp V) : Prop :=
  MapKept.Stamped es ck ∧ Srt m ∧ (∀ e ∈ es.toList, ∃ x ∈ m, Me τ pk ζ e x) ∧ (∀ x ∈ m, ∃ e ∈ es.toList, Me τ pk ζ e x)
theorem Me.mono {e : MapEntry} {x : Str × V} (h : Me τ pk ζ e x) (hl : Le ζ ζ') : Me τ pk ζ' e x := by
  obtain ⟨h1, cs, h2, h3⟩ := h
  exact ⟨h1, cs, h2, τ.mono h3 hl⟩
theorem Mr.mono (h : Mr τ pk ζ es ck m) (hl : Le ζ ζ') : Mr τ pk ζ' es ck m := by
  obtain ⟨h1, h2, h3, h4⟩ := h
  refine ⟨h1, h2, fun e he => ?_, fun x hx => ?_⟩
  · obtain ⟨x, hx, hm⟩ := h3 e he; exact ⟨x, hx, hm.mono hl⟩
  · obtain ⟨e, he, hm⟩ := h4 x hx; exact ⟨e, he, hm.mono hl⟩
theorem Mr.nil (τ : Ty V) (pk : List Value → Value) (ζ : Zp) : Mr τ pk ζ #[] 0 [] := ⟨MapKept.stamped_empty 0, Srt.nil, fun e he => by simp at he, fun x hx => by cases hx⟩
theorem Mr.isKey (h : Mr τ pk ζ es ck m) : ∀ e ∈ es.toList, MapKept.IsKey .string e.key := fun e he => by
  obtain ⟨x, _, h1, _⟩ := h.2.2.1 e he
  rw [h1]; trivial
theorem vs_inj {a b : Str} (h : vs a = vs b) : a = b := by
  have h1 : (⟨a.toArray⟩ : ByteArray) = ⟨b.toArray⟩ := by simpa [vs] using h
  have h2 : a.toArray = b.toArray := congrArg ByteArray.data h1
  simpa using h2
theorem nodup_inj {α β : Type} {f : α → β} : ∀ {l : List α}, (l.map f).Nodup → ∀ {a b : α}, a ∈ l → b ∈ l → f a = f b → a = b
  | c :: l, h, a, b, ha, hb, he => by
    obtain ⟨h1, h2⟩ := List.nodup_cons.1 h
    rcases List.mem_cons.1 ha with rfl | ha'
    · rcases List.mem_cons.1 hb with rfl | hb'
      · rfl
      · exact absurd (he ▸ List.mem_map.2 ⟨b, hb', rfl⟩) h1
    · rcases List.mem_cons.1 hb with rfl | hb'
      · exact absurd (he ▸ List.mem_map.2 ⟨a, ha', rfl⟩) h1
      · exact nodup_inj h2 ha' hb' he
/-- A map that may be read now. -/
def MH (τ : Ty V) (pk : List Value → Value) (ζ h : Zp) (A : Option Nat) (m : Mp V) : Prop := (A = none ∧ m = []) ∨ ∃ r es ck, A = some r ∧ h r = some (.map es ck) ∧ Mr τ pk ζ es ck m
/-- A map that stands still. -/
def Mz (τ : Ty V) (pk : List Value → Value) (ζ : Zp) (A : Option Nat) (m : Mp V) : Prop := MH τ pk ζ ζ A m
theorem Mz.nil (τ : Ty V) (pk : List Value → Value) (ζ : Zp) : Mz τ pk ζ none [] := .inl ⟨rfl, rfl⟩
theorem Mz.mono {A : Option Nat} (h : Mz τ pk ζ A m) (hl : Le ζ ζ') : Mz τ pk ζ' A m := by
  rcases h with h | ⟨r, es, ck, h1, h2, h3⟩
  · exact .inl h
  · exact .inr ⟨r, es, ck, h1, hl _ _ h2, h3.mono hl⟩
theorem Mz.at_ {A : Option Nat} (h : Mz τ pk ζ A m) (hst : Ht w0 (frz ζ :: H) w) : MH τ pk ζ (hp w) A m := by
  rcases h with h | ⟨r, es, ck, h1, h2, h3⟩
  · exact .inl h
  · exact .inr ⟨r, es, ck, h1, hst.le _ _ h2, h3⟩
theorem Mr.own {r : Nat} {i : Nat} (h : Mr τ pk ζ es ck m) (hst : Ht w0 H w) (hi : H[i]? = some (ob r (.map es ck))) : MH τ pk ζ (hp w) (some r) m := .inr ⟨r, es, ck, rfl, hst.get hi, h⟩
theorem St.freezeM {r : Nat} (hst : Ht w0 (frz ζ :: ob r (.map es ck) :: H) w) (hM : Mr τ pk ζ es ck m) : ∃ ζ', Le ζ ζ' ∧ Mz τ pk ζ' (some r) m ∧ Ht w0 (frz ζ' :: H) w := by
  have hp0 := hst.get (i := 1) rfl
  obtain ⟨ζ', hl, he, h'⟩ := hst.freezeS
  exact ⟨ζ', hl, .inr ⟨r, es, ck, rfl, (he r rfl).trans hp0, hM.mono hl⟩, h'⟩
/-- The look-up of a key. -/
theorem find_key {kt : TypeId} (hk : P.underlying kt = some .string) (h : Mr τ pk ζ es ck m) (s : Str) (W : World) :
    ((Instr.findKey kt (vs s) es.toList).run P W = .ok none W ∧ mget m s = none ∧ ∀ e ∈ es.toList, e.key ≠ vs s) ∨
    ∃ j e a cs, (Instr.findKey kt (vs s) es.toList).run P W = .ok (some (j, e.val)) W ∧ es[j]? = some e ∧ e.key = vs s ∧ mget m s = some a ∧ e.val = pk cs ∧ τ.R ζ cs a := by
  rcases MapKept.findNow_spec (d := .string) (k := vs s) trivial es.toList 0 h.isKey with ⟨h1, h2⟩ | ⟨j, e, h1, h2, h3⟩
  · refine .inl ⟨MapKept.run_findKey hk h1, ?_, h2⟩
    rw [mget_none]
    intro a ha he
    obtain ⟨e, hem, hme, _⟩ := h.2.2.2 a ha
    exact h2 e hem (by rw [hme, he])
  · rw [Nat.zero_add] at h1
    have hem : e ∈ es.toList := List.mem_of_getElem? h2
    obtain ⟨a, ha, hme, cs, hv, hr⟩ := h.2.2.1 e hem
    have ha1 : a.1 = s := vs_inj (hme.symm.trans h3)
    refine .inr ⟨j, e, a.2, cs, MapKept.run_findKey hk h1, by simpa using h2, h3, ?_, hv, hr⟩
    rw [mget_some h.2.1, ← ha1]
    exact ha
theorem run_look {t kt et : TypeId} {A : Option Nat} {s : Str} {zcs : List Value} {zx : V} (hM : MH τ pk ζ (hp w) A m) (hm : P.underlying t = some (.map kt et)) (hk : P.underlying kt = some .string) (hz : (P.info? et).map (·.zero) = some (some (pk zcs))) (hzR : τ.R ζ zcs zx) :
    ∃ cs, τ.R ζ cs ((mget m s).getD zx) ∧ ∀ ok, (Instr.lookup t (.map A) (vs s) ok).run P w = .ok (if ok then .tuple #[pk cs, .bool (mget m s).isSome] else pk cs) w := by
  have hzv : (zeroValue et).run P w = .ok (pk zcs) w := by
    cases hi : P.info? et with
    | none => rw [hi] at hz; cases hz
    | some i =>
      rw [hi] at hz
      simp only [Option.map_some, Option.some.injEq] at hz
      simp [zeroValue, typeInfo, hi, hz]
  have hck : ∀ b, (Instr.checkKey b 10000 kt (vs s)).run P w = .ok () w := fun b => MapKept.run_checkKey (d := .string) (k := vs s) hk trivial b 9999
  rcases hM with ⟨rfl, rfl⟩ | ⟨r, es, ck, rfl, hr, hMr⟩
  · refine ⟨zcs, hzR, fun ok => ?_⟩
    have hf : (Instr.findKey kt (vs s) ([] : List MapEntry)).run P w = .ok none w := MapKept.run_findKey hk rfl
    have hg : mget ([] : Mp V) s = none := rfl
    rw [hg]
    cases ok <;> simp [Instr.lookup, run_underlying hm, hck, hf, hzv]
  · have hr' : w.heap[r]? = some (.map es ck) := hr
    have ho := MapKept.run_getObj_map (P := P) hr'
    rcases find_key hk hMr s w with ⟨h1, h2, _⟩ | ⟨j, e, a, cs, h1, h2, h3, h4, h5, h6⟩
    · refine ⟨zcs, by rw [h2]; exact hzR, fun ok => ?_⟩
      rw [h2]
      cases ok <;> simp [Instr.lookup, run_underlying hm, ho, hck, h1, hzv]
    · refine ⟨cs, by rw [h4]; exact h6, fun ok => ?_⟩
      rw [h4]
      cases ok <;> simp [Instr.lookup, run_underlying hm, ho, hck, h1, h5]
/-- v, ok := m[k] -/
theorem Ops.mlook {kt et : TypeId} {A : Option Nat} {s : Str} {zcs : List Value} (zx : V) (hM : MH τ pk ζ (hp w) A m) (hx : ev e x = some (.map A)) (hy : ev e y = some (vs s)) (hm : P.underlying xt = some (.map kt et)) (hk : P.underlying kt = some .string) (hz : (P.info? et).map (·.zero) = some (some (pk zcs))) (hzR : τ.R ζ zcs zx) (hn : Nat.blt d n.size = true)
    (h : ∀ cs, τ.R ζ cs ((mget m s).getD zx) → Ops P n Qf k ops rest ((d, .tuple #[pk cs, .bool (mget m s).isSome]) :: e) w) : Ops P n Qf k ops (⟨some d, .lookup xt x y true, T, pos, af, none⟩ :: rest) e w := by
  obtain ⟨cs, hR, hrun⟩ := run_look (s := s) hM hm hk hz hzR
  refine Ops.val rfl rfl hn (fun c hc => ?_) (h cs hR)
  simp [execOp, hc _ _ hx, hc _ _ hy, hrun true]
theorem Ops.mlook1 {kt et : TypeId} {A : Option Nat} {s : Str} {zcs : List Value} (zx : V) (hM : MH τ pk ζ (hp w) A m) (hx : ev e x = some (.map A)) (hy : ev e y = some (vs s)) (hm : P.underlying xt = some (.map kt et)) (hk : P.underlying kt = some .string) (hz : (P.info? et).map (·.zero) = some (some (pk zcs))) (hzR : τ.R ζ zcs zx) (hn : Nat.blt d n.size = true)
    (h : ∀ cs, τ.R ζ cs ((mget m s).getD zx) → Ops P n Qf k ops rest ((d, pk cs) :: e) w) : Ops P n Qf k ops (⟨some d, .lookup xt x y false, T, pos, af, none⟩ :: rest) e w := by
  obtain ⟨cs, hR, hrun⟩ := run_look (s := s) hM hm hk hz hzR
  refine Ops.val rfl rfl hn (fun c hc => ?_) (h cs hR)
  simp [execOp, hc _ _ hx, hc _ _ hy, hrun false]
theorem setB_fr (w : World) (r : Nat) (o : Obj) : Fr w { w with heap := w.heap.setIfInBounds r o } (fun k => k = r) := ⟨rfl, rfl, rfl, by simp, fun k _ hne => by
  show (w.heap.setIfInBounds r o)[k]? = w.heap[k]?
  rw [Array.getElem?_setIfInBounds_ne (Ne.symm hne)]⟩
theorem St.setB {r : Nat} {o : Obj} (hst : Ht w0 H w) (i : Nat) (hi : H[i]? = some (ob r o)) (o' : Obj) : Ht w0 (H.set i (ob r o')) { w with heap := w.heap.setIfInBounds r o' } := by
  have hlt := hst.lt hi (k := r) rfl
  refine hst.upd i hi (setB_fr w r o') ?_ (fun k hk => ⟨.inl hk, by
    have hk' : k = r := hk
    subst hk'
    simpa using hlt⟩)
  show (w.heap.setIfInBounds r o')[r]? = some o'
  simp [hlt]
theorem mem_modify {es : Array MapEntry} {j : Nat} {f : MapEntry → MapEntry} {e0 : MapEntry} (hn : (es.toList.map (·.key)).Nodup) (hj : es[j]? = some e0) (e : MapEntry) : e ∈ (es.modify j f).toList ↔ e = f e0 ∨ (e ∈ es.toList ∧ e.key ≠ e0.key) := by
  have hjl : es.toList[j]? = some e0 := by simpa using hj
  have he0 : e0 ∈ es.toList := List.mem_of_getElem? hjl
  constructor
  · intro he
    obtain ⟨i, hi⟩ := List.getElem?_of_mem he
    rw [Array.getElem?_toList, Array.getElem?_modify] at hi
    by_cases hij : j = i
    · subst hij
      rw [if_pos rfl, hj] at hi
      simp at hi
      exact .inl hi.symm
    · rw [if_neg hij] at hi
      have hi' : es.toList[i]? = some e := by simpa using hi
      refine .inr ⟨List.mem_of_getElem? hi', fun hk => hij ?_⟩
      have h1 : (es.toList.map (·.key))[i]? = some e.key := by rw [List.getElem?_map, hi']; rfl
      have h2 : (es.toList.map (·.key))[j]? = some e0.key := by rw [List.getElem?_map, hjl]; rfl
      have hil : i < (es.toList.map (·.key)).length := by
        rcases Nat.lt_or_ge i (es.toList.map (·.key)).length with h' | h'
        · exact h'
        · rw [List.getElem?_eq_none h'] at h1; cases h1
      have hjl2 : j < (es.toList.map (·.key)).length := by
        rcases Nat.lt_or_ge j (es.toList.map (·.key)).length with h' | h'
        · exact h'
        · rw [List.getElem?_eq_none h'] at h2; cases h2
      have e1 := (List.getElem?_eq_some_iff.1 h1).2
      have e2 := (List.getElem?_eq_some_iff.1 h2).2
      have hpw := List.pairwise_iff_getElem.1 hn
      rcases Nat.lt_trichotomy i j with h' | h' | h'
      · exact absurd (by rw [e1, e2, hk]) (hpw i j hil hjl2 h')
      · exact h'.symm
      · exact absurd (by rw [e1, e2, hk]) (hpw j i hjl2 hil h')
  · rintro (rfl | ⟨he, hne⟩)
    · refine List.mem_of_getElem? (i := j) ?_
      rw [Array.getElem?_toList, Array.getElem?_modify, if_pos rfl, hj]
      rfl
    · obtain ⟨i, hi⟩ := List.getElem?_of_mem he
      refine List.mem_of_getElem? (i := i) ?_
      rw [Array.getElem?_toList, Array.getElem?_modify, if_neg (fun hij => hne ?_)]
      · simpa using hi
      · subst hij
        rw [hjl] at hi
        cases hi
        rfl
theorem Mr.put {s : Str} {a : V} {cs : List Value} (h : Mr τ pk ζ es ck m) (hR : τ.R ζ cs a) :
    (mget m s = none → (∀ e ∈ es.toList, e.key ≠ vs s) → Mr τ pk ζ (es.push { key := vs s, val := pk cs, born := ck }) (ck + 1) (mput m s a)) ∧
    (∀ j e, es[j]? = some e → e.key = vs s → Mr τ pk ζ (es.modify j fun e => { e with key := vs s, val := pk cs }) ck (mput m s a)) := by
  obtain ⟨h1, h2, h3, h4⟩ := h
  constructor
  · intro hg hne
    refine ⟨MapKept.stamped_push h1 hne, h2.put s a, fun e he => ?_, fun x hx => ?_⟩
    · simp only [Array.toList_push, List.mem_append, List.mem_singleton] at he
      rcases he with he | rfl
      · obtain ⟨x, hx, hm⟩ := h3 e he
        exact ⟨x, (mem_mput h2).2 (.inr ⟨hx, fun hk => hne e he (by rw [hm.1, hk])⟩), hm⟩
      · exact ⟨(s, a), (mem_mput h2).2 (.inl rfl), rfl, cs, rfl, hR⟩
    · rcases (mem_mput h2).1 hx with rfl | ⟨hx, _⟩
      · exact ⟨{ key := vs s, val := pk cs, born := ck }, by simp, rfl, cs, rfl, hR⟩
      · obtain ⟨e, he, hm⟩ := h4 x hx
        exact ⟨e, by simp at he ⊢; exact .inl he, hm⟩
  · intro j e0 hj hk
    refine ⟨MapKept.stamped_modify h1 j _ (fun _ _ => rfl) (fun e' _ he' => by rw [hj] at he'; cases he'; exact hk.symm), h2.put s a, fun e he => ?_, fun x hx => ?_⟩
    · rcases (mem_modify h1.2.2 hj e).1 he with rfl | ⟨he, hne⟩
      · exact ⟨(s, a), (mem_mput h2).2 (.inl rfl), rfl, cs, rfl, hR⟩
      · obtain ⟨x, hx, hm⟩ := h3 e he
        exact ⟨x, (mem_mput h2).2 (.inr ⟨hx, fun hk' => hne (by rw [hm.1, hk', hk])⟩), hm⟩
    · rcases (mem_mput h2).1 hx with rfl | ⟨hx, hne⟩
      · exact ⟨_, (mem_modify h1.2.2 hj _).2 (.inl rfl), rfl, cs, rfl, hR⟩
      · obtain ⟨e, he, hm⟩ := h4 x hx
        exact ⟨e, (mem_modify h1.2.2 hj e).2 (.inr ⟨he, fun hk' => hne (vs_inj (by rw [← hm.1, hk', hk]))⟩), hm⟩
/-- m[k] = v -/
theorem Ops.mputO {kt et : TypeId} {r : Nat} {s : Str} {a : V} {cs : List Value} (i : Nat) (hst : Ht w0 H w) (hi : H[i]? = some (ob r (.map es ck))) (hM : Mr τ pk ζ es ck m) (hR : τ.R ζ cs a) (hx : ev e x = some (.map (some r))) (hy : ev e y = some (vs s)) (hv : ev e v = some (pk cs)) (hm : P.underlying xt = some (.map kt et)) (hk : P.underlying kt = some .string)
    (h : ∀ es' ck' w', Mr τ pk ζ es' ck' (mput m s a) → Ht w0 (H.set i (ob r (.map es' ck'))) w' → Ops P n Qf k ops rest e w') : Ops P n Qf k ops (⟨none, .mapUpdate xt x y v, T, pos, af, none⟩ :: rest) e w := by
  have hr : w.heap[r]? = some (.map es ck) := hst.get hi
  have ho := MapKept.run_getObj_map (P := P) hr
  have hck : ∀ b, (Instr.checkKey b 10000 kt (vs s)).run P w = .ok () w := fun b => MapKept.run_checkKey (d := .string) (k := vs s) hk trivial b 9999
  rcases find_key hk hM s w with ⟨h1, h2, h3⟩ | ⟨j, e0, a0, cs0, h1, h2, h3, _, _, _⟩
  · have hs := MapKept.run_setObj_map (P := P) (Obj.map (es.push { key := vs s, val := pk cs, born := ck }) (ck + 1)) hr
    refine Ops.unit rfl rfl (fun c hc => ?_) (h _ _ _ ((hM.put hR).1 h2 h3) (hst.setB i hi _))
    simp [execOp, hc _ _ hx, hc _ _ hy, hc _ _ hv, Instr.mapUpdate, run_underlying hm, ho, hck, h1, hs]
  · have hs := MapKept.run_setObj_map (P := P) (Obj.map (es.modify j fun e => { e with key := vs s, val := pk cs }) ck) hr
    have hkt : (Instr.keyThatStays (vs s) (vs s)).run P w = .ok (vs s) w := MapKept.run_keyThatStays (d := .string) trivial
    refine Ops.unit rfl rfl (fun c hc => ?_) (h _ _ _ ((hM.put hR).2 j e0 h2 h3) (hst.setB i hi _))
    simp [execOp, hc _ _ hx, hc _ _ hy, hc _ _ hv, Instr.mapUpdate, run_underlying hm, ho, hck, h1, h2, h3, hkt, hs]
theorem Mr.del {s : Str} (h : Mr τ pk ζ es ck m) : ((∀ e ∈ es.toList, e.key ≠ vs s) → Mr τ pk ζ es ck (mdel m s)) ∧ (∀ j e, es[j]? = some e → e.key = vs s → Mr τ pk ζ (es.eraseIdxIfInBounds j) ck (mdel m s)) := by
  obtain ⟨h1, h2, h3, h4⟩ := h
  constructor
  · intro hne
    refine ⟨h1, h2.del s, fun e he => ?_, fun x hx => ?_⟩
    · obtain ⟨x, hx, hm⟩ := h3 e he
      exact ⟨x, mem_mdel.2 ⟨hx, fun hk => hne e he (by rw [hm.1, hk])⟩, hm⟩
    · exact h4 x (mem_mdel.1 hx).1
  · intro j e0 hj hk
    have hjl : es.toList[j]? = some e0 := by simpa using hj
    have hlt : j < es.size := by
      rcases Nat.lt_or_ge j es.size with h' | h'
      · exact h'
      · rw [Array.getElem?_eq_none h'] at hj; cases hj
    have hmem : ∀ e, e ∈ (es.eraseIdxIfInBounds j).toList ↔ e ∈ es.toList ∧ e.key ≠ e0.key := by
      intro e
      have e1 : (es.eraseIdxIfInBounds j).toList = es.toList.eraseIdx j := by
        unfold Array.eraseIdxIfInBounds
        rw [dif_pos hlt, Array.toList_eraseIdx]
      rw [e1]
      constructor
      · intro he
        refine ⟨List.mem_of_mem_eraseIdx he, fun hke => ?_⟩
        have hn := h1.2.2
        have h5 := nodup_inj hn (List.mem_of_mem_eraseIdx he) (List.mem_of_getElem? hjl) hke
        subst h5
        have hsp : es.toList = es.toList.take j ++ e :: es.toList.drop (j + 1) := by
          have hl2 : j < es.toList.length := by simpa using hlt
          have : es.toList[j] = e := (List.getElem?_eq_some_iff.1 hjl).2
          conv => lhs; rw [← List.take_append_drop j es.toList, List.drop_eq_getElem_cons hl2, this]
        rw [List.eraseIdx_eq_take_drop_succ] at he
        rw [hsp, List.map_append, List.map_cons] at hn
        have hn2 := List.nodup_append.1 hn
        rcases List.mem_append.1 he with he | he
        · exact hn2.2.2 e.key (List.mem_map.2 ⟨e, he, rfl⟩) e.key (List.mem_cons_self ..) rfl
        · exact (List.nodup_cons.1 hn2.2.1).1 (List.mem_map.2 ⟨e, he, rfl⟩)
      · rintro ⟨he, hne⟩
        obtain ⟨i, hi⟩ := List.getElem?_of_mem he
        have hij : i ≠ j := fun h => by subst h; rw [hjl] at hi; cases hi; exact hne rfl
        rw [List.eraseIdx_eq_take_drop_succ]
        rcases Nat.lt_or_gt_of_ne hij with h' | h'
        · exact List.mem_append_left _ (List.mem_of_getElem? (i := i) (by rw [List.getElem?_take, if_pos h']; exact hi))
        · exact List.mem_append_right _ (List.mem_of_getElem? (i := i - (j + 1)) (by rw [List.getElem?_drop, show j + 1 + (i - (j + 1)) = i by omega]; exact hi))
    refine ⟨MapKept.stamped_erase h1 j, h2.del s, fun e he => ?_, fun x hx => ?_⟩
    · obtain ⟨he, hne⟩ := (hmem e).1 he
      obtain ⟨x, hx, hm⟩ := h3 e he
      exact ⟨x, mem_mdel.2 ⟨hx, fun hk' => hne (by rw [hm.1, hk', hk])⟩, hm⟩
    · obtain ⟨hx, hne⟩ := mem_mdel.1 hx
      obtain ⟨e, he, hm⟩ := h4 x hx
      exact ⟨e, (hmem e).2 ⟨he, fun hk' => hne (vs_inj (by rw [← hm.1, hk', hk]))⟩, hm⟩
/-- delete(m, k) -/
theorem Ops.mdelO {args : Array Operand} {tys : Array TypeId} {t kt et kt2 : TypeId} {r : Nat} {s : Str} (i : Nat) (hst : Ht w0 H w) (hi : H[i]? = some (ob r (.map es ck))) (hM : Mr τ pk ζ es ck m) (ha : args = #[x, y]) (hty : tys = #[t, kt2]) (hx : ev e x = some (.map (some r))) (hy : ev e y = some (vs s)) (hm : P.underlying t = some (.map kt et)) (hk : P.underlying kt = some .string)
    (h : ∀ es' w', Mr τ pk ζ es' ck (mdel m s) → Ht w0 (H.set i (ob r (.map es' ck))) w' → Ops P n Qf k ops rest e w') : Ops P n Qf k ops (⟨none, .call ⟨.builtin .delete, args, tys⟩, T, pos, af, none⟩ :: rest) e w := by
  subst ha hty
  have hr : w.heap[r]? = some (.map es ck) := hst.get hi
  have ho := MapKept.run_getObj_map (P := P) hr
  have hck : ∀ b, (Instr.checkKey b 10000 kt (vs s)).run P w = .ok () w := fun b => MapKept.run_checkKey (d := .string) (k := vs s) hk trivial b 9999
  rcases find_key hk hM s w with ⟨h1, h2, h3⟩ | ⟨j, e0, a0, cs0, h1, h2, h3, _, _, _⟩
  · have hs := MapKept.run_setObj_map (P := P) (Obj.map es ck) hr
    refine Ops.valU (v := .tuple #[]) rfl rfl (fun c hc => ?_) (h _ _ (hM.del.1 h3) (hst.setB i hi _))
    simp [execOp, hc _ _ hx, hc _ _ hy, resolve, invoke, builtin, Builtin.delete_, run_underlying hm, ho, hck, h1, hs]
  · have hs := MapKept.run_setObj_map (P := P) (Obj.map (es.eraseIdxIfInBounds j) ck) hr
    refine Ops.valU (v := .tuple #[]) rfl rfl (fun c hc => ?_) (h _ _ (hM.del.2 j e0 h2 h3) (hst.setB i hi _))
    simp [execOp, hc _ _ hx, hc _ _ hy, resolve, invoke, builtin, Builtin.delete_, run_underlying hm, ho, hck, h1, hs]
/-- map[string]V{} -/
theorem Ops.mkmap (hst : Ht w0 (R0 :: H) w) (hn : Nat.blt d n.size = true) (h : ∀ r w', Ht w0 (R0 :: ob r (.map #[] 0) :: H) w' → Ops P n Qf k ops rest ((d, .map (some r)) :: e) w') : Ops P n Qf k ops (⟨some d, .makeMap xt none, T, pos, af, none⟩ :: rest) e w := by
  have h1 := (hst.newOb (.map #[] 0)).perm (H' := R0 :: ob w.heap.size (.map #[] 0) :: H) (by rw [List.cons_append]; exact List.Perm.cons _ List.perm_append_comm)
  have hrun : (Instr.makeMap xt none).run P w = .ok (.map (some w.heap.size)) (w.alloc (.map #[] 0)) := rfl
  refine Ops.val (w' := w.alloc (.map #[] 0)) rfl rfl hn (fun c hc => ?_) (h _ _ h1)
  simp [execOp, hrun]
theorem keys_len (h : Mr τ pk ζ es ck m) : es.size = m.length := by
  obtain ⟨h1, h2, h3, h4⟩ := h
  have hn : (m.map fun x => vs x.1).Nodup := by
    have : m.Pairwise fun a b => vs a.1 ≠ vs b.1 := h2.imp fun {a b} hab he => by
      rw [vs_inj he, lt_irr] at hab; cases hab
    exact List.pairwise_map.2 this
  have hp : (es.toList.map (·.key)).Perm (m.map fun x => vs x.1) := by
    rw [List.perm_ext_iff_of_nodup h1.2.2 hn]
    intro a
    simp only [List.mem_map]
    constructor
    · rintro ⟨e, he, rfl⟩
      obtain ⟨x, hx, hm⟩ := h3 e he
      exact ⟨x, hx, hm.1.symm⟩
    · rintro ⟨x, hx, rfl⟩
      obtain ⟨e, he, hm⟩ := h4 x hx
      exact ⟨e, he, hm.1⟩
  have := hp.length_eq
  simpa using this
/-- len(m) -/
theorem Ops.mlen {args : Array Operand} {tys : Array TypeId} {t kt et : TypeId} {A : Option Nat} (hM : MH τ pk ζ (hp w) A m) (ha : args = #[x]) (hx : ev e x = some (.map A)) (hty : tys = #[t]) (hm : P.underlying t = some (.map kt et)) (hn : Nat.blt d n.size = true)
    (h : Ops P n Qf k ops rest ((d, vi (m.length : Int)) :: e) w) : Ops P n Qf k ops (⟨some d, .call ⟨.builtin .len, args, tys⟩, T, pos, af, none⟩ :: rest) e w := by
  subst ha hty
  refine Ops.val rfl rfl hn (fun c hc => ?_) h
  rcases hM with ⟨rfl, rfl⟩ | ⟨r, es, ck, rfl, hr, hMr⟩
  · simp [execOp, hc _ _ hx, resolve, invoke, builtin, Builtin.len_, run_underlying hm, goInt]
  · have ho := MapKept.run_getObj_map (P := P) (show w.heap[r]? = some (.map es ck) from hr)
    have hl := keys_len hMr
    simp [execOp, hc _ _ hx, resolve, invoke, builtin, Builtin.len_, run_underlying hm, ho, goInt, hl]
end
end Go.Proofs.YtfomkndngnfneaaDoor.Sx
