/- The interpreter is sound: the program's own facts; a law's run. -/
import Derived.KernelRfl
import Derived.Laws.Externs
import Derived.Lib.Bytealg
import Derived.Lib.Overlaps
import Derived.Test.YtiekoeapmhhjbaaGreatDoorMG
/- The interpreter is sound, part QK: functions without a body. -/
namespace Go.Proofs.YtiekoeapmhhjbaaGreatDoor.X
open Go Go.RowKit
set_option linter.unusedVariables false
set_option linter.unusedSimpArgs false
variable {c : Ctx} {Γ Γ' : Gm} {m m' : M} {w w' : World} {Q : Program}
theorem clone_ok (hR : Rel c Γ m w) {t : TypeId} {r : Nat} {x : Value} (hx : DV c.ν Γ (.iface t (.map r)) x) {v : V} (h : xClone m t r = some (v, m')) : VOut c Γ v m' w (Extern.MapsClone.clone #[x]) Q := by
  obtain ⟨y, hy, rfl⟩ := dv_iface hx
  obtain ⟨g, hg, rfl⟩ := dv_map hy
  unfold xClone at h
  cases hb : m.get r <;> rw [hb] at h <;> first | (cases h; done) | skip
  rename_i es cl
  have h : allo m (.map es cl) (fun k m => one (.iface t (.map k)) m) = some (v, m') := h
  rw [allo_eq] at h
  cases h
  have hk := hR.at hg (by rw [hb]; simp)
  rw [hb] at hk
  obtain ⟨ys, h1, h2⟩ := hk
  have hR' : Rel c (addG Γ m.n ⟨w.heap.size, 0, 0⟩) (m.add (.map es cl)) (w.alloc (.map ys cl)) := hR.alloc (o := .map ys cl) (N := 0) rfl rfl rfl rfl ⟨ys, World.alloc_heap_new w _, h2.mono (LeG.add hR.fresh _)⟩
  refine ⟨.iface t (.map (some w.heap.size)), _, _, LeG.add hR.fresh _, hR', ?_, ?_⟩
  · rw [DV]
    refine ⟨_, ?_, rfl⟩
    rw [DV]
    exact ⟨_, addG_same _ _ _, rfl⟩
  · have e1 : Extern.MapsClone.clone #[.iface t (.map (some g.blk))] = (do
      let .map entries clock ← getObj g.blk | stuck "maps.clone: a map expected"
      pure (.iface t (.map (some (← newObj (.map entries clock)))))) := rfl
    rw [e1, Sem.run_bind]
    have e2 : (getObj g.blk).run Q w = .ok (.map ys cl) w := by simp [getObj, Sem.run, h1]
    rw [e2]
    simp [run_newObj_alloc]
theorem cb_less : ∀ (a b : List UInt8), Lib.compareBytes a b = if Op.bytesLess a b then -1 else if Op.bytesLess b a then 1 else 0
  | [], [] => rfl
  | [], _ :: _ => rfl
  | _ :: _, [] => rfl
  | x :: a, y :: b => by
    have h := cb_less a b
    simp only [Lib.compareBytes, Op.bytesLess]
    by_cases h1 : x < y
    · simp [h1]
    · by_cases h2 : y < x
      · have hne : ¬ (x == y) = true := by
          intro he
          have : x = y := by simpa using he
          subst this
          exact h1 h2
        simp [h1, h2, hne]
      · have he : x = y := by
          have h3 := UInt8.not_lt.1 h1
          have h4 := UInt8.not_lt.1 h2
          exact UInt8.le_antisymm h4 h3
        subst he
        simp [h1, h]
theorem cmpS_ok {a b : List Nat} {x y : Value} {v : V} (hx : DV c.ν Γ (.str a) x) (hy : DV c.ν Γ (.str b) y) (h : bi (ltL a b) (one (.int .i64 18446744073709551615) m) (bi (ltL b a) (one (intV 1) m) (one (intV 0) m)) = some (v, m')) :
    m' = m ∧ ∃ z, DV c.ν Γ v z ∧ (Extern.BytealgCompare.compare #[x, y]).run Q w = .ok z w := by
  rw [dv_str hx, dv_str hy, Lib.run_compareString, cb_less]
  have e1 : Op.bytesLess (strB a).data.toList (strB b).data.toList = ltL a b := by
    rw [ltL_iff]
    rfl
  have e2 : Op.bytesLess (strB b).data.toList (strB a).data.toList = ltL b a := by
    rw [ltL_iff]
    rfl
  rw [e1, e2]
  cases h1 : ltL a b with
  | true =>
    rw [h1] at h
    cases h
    exact ⟨rfl, _, mk_int rfl, rfl⟩
  | false =>
    rw [h1] at h
    have h : bi (ltL b a) (one (intV 1) m) (one (intV 0) m) = some (v, m') := h
    cases h2 : ltL b a with
    | true =>
      rw [h2] at h
      cases h
      exact ⟨rfl, _, by rw [intV_eq]; exact mk_int rfl, rfl⟩
    | false =>
      rw [h2] at h
      cases h
      exact ⟨rfl, _, by rw [intV_eq]; exact mk_int rfl, rfl⟩
/-- What a slice is, to slices.overlaps. -/
theorem slK_ok {x : V} {X : Value} (hx : DV c.ν Γ x X) {p : Option (Nat × Nat × Nat)} (h : slK x = some p) : (∃ b o l g q, p = some (b, o, l) ∧ Γ b = some g ∧ X = .slice (some ⟨g.blk, g.sh + o, none⟩) l q) ∨ (p = none ∧ ∃ A q, X = .slice A 0 q) := by
  cases x <;> first | (cases h; done) | skip
  · cases h
    obtain ⟨g, q, hg, _, rfl⟩ := dv_slice hx
    exact .inl ⟨_, _, _, g, q, rfl, hg, rfl⟩
  · cases h
    rw [dv_nilS hx]
    exact .inr ⟨rfl, none, 0, rfl⟩
  · cases h
    obtain ⟨a, q, _, rfl⟩ := dv_emp hx
    exact .inr ⟨rfl, some a, q, rfl⟩
theorem run_over (params results : Array TypeId) {t el : TypeId} {z : Nat} (hp : params[0]? = some t) (hu : Q.underlying t = some (.slice el)) (hz : (Q.info? el).map (·.size) = some z) (A B : Option Addr) (la ca lb cb : Nat) (w : World) :
    (Extern.SlicesOverlaps.overlaps params results #[.slice A la ca, .slice B lb cb]).run Q w = (match A, B with
    | some a, some b =>
      if la = 0 ∨ lb = 0 ∨ z = 0 then pure (Value.bool false)
      else do
      if a.block != b.block && (← frozen a) && (← frozen b) then unsupported .addressObserved
      else do
        if a.block != b.block then do
          noView a; noView b
          if ← mayBeOne a b then return Value.bool ((← choose (.extern "sameAddr.stringBytes" 2)) == 1)
        pure (Value.bool (a.block == b.block && a.off < b.off + lb * z && b.off < a.off + la * z))
    | _, _ => pure (Value.bool false) : Sem Value).run Q w := by
  have e1 : Extern.SlicesOverlaps.overlaps params results #[.slice A la ca, .slice B lb cb] = (do
    let some t := params[0]? | stuck "slices.overlaps: no parameter types"
    let .slice elem ← underlying t | stuck "slices.overlaps: slice type expected"
    let size ← sizeOf elem
    match A, B with
    | some a, some b =>
      if la = 0 ∨ lb = 0 ∨ size = 0 then pure (Value.bool false)
      else if a.block != b.block && (← frozen a) && (← frozen b) then unsupported .addressObserved
      else do
        if a.block != b.block then do
          noView a; noView b
          if ← mayBeOne a b then return Value.bool ((← choose (.extern "sameAddr.stringBytes" 2)) == 1)
        pure (Value.bool (a.block == b.block && a.off < b.off + lb * size && b.off < a.off + la * size))
    | _, _ => pure (Value.bool false)) := rfl
  rw [e1, hp]
  simp only [Sem.run_bind, run_underlying hu, Result.andThen_ok, Sx.run_sizeOf hz]
theorem over_ok (hR : Rel c Γ m w) {x y : V} {X Y : Value} (hx : DV c.ν Γ x X) (hy : DV c.ν Γ y Y) {t r : TypeId} {v : V} (h : xOver Q m t x y = some (v, m')) : m' = m ∧ ∃ z, DV c.ν Γ v z ∧ (Extern.SlicesOverlaps.overlaps #[t, t] #[r] #[X, Y]).run Q w = .ok z w := by
  unfold xOver at h
  rw [ob_eq] at h
  obtain ⟨⟨el, z⟩, hez, h⟩ := h
  obtain ⟨hu, hz⟩ := elz_eq hez
  dsimp only at hu hz
  rw [ob_eq] at h
  obtain ⟨p, hp, h⟩ := h
  rw [ob_eq] at h
  obtain ⟨q, hq, h⟩ := h
  have none_ : ∀ A B la ca lb cb, X = .slice A la ca → Y = .slice B lb cb → (la = 0 ∨ lb = 0) → (Extern.SlicesOverlaps.overlaps #[t, t] #[r] #[X, Y]).run Q w = .ok (.bool false) w := by
    intro A B la ca lb cb hX hY h0
    rw [hX, hY, run_over #[t, t] #[r] (by simp) hu hz]
    cases A with
    | none => rfl
    | some a =>
      cases B with
      | none => rfl
      | some b =>
        dsimp only
        rw [if_pos (by rcases h0 with h0 | h0; exact .inl h0; exact .inr (.inl h0))]
        rfl
  rcases slK_ok hx hp with ⟨b, o, l, g, cq, rfl, hg, hX⟩ | ⟨rfl, A, cq, hX⟩
  · rcases slK_ok hy hq with ⟨b2, o2, l2, g2, cq2, rfl, hg2, hY⟩ | ⟨rfl, B, cq2, hY⟩
    · dsimp only at h
      cases h1 : Nat.beq l 0 with
      | true =>
        rw [h1] at h
        cases h
        exact ⟨rfl, _, mk_bool, none_ _ _ _ _ _ _ hX hY (.inl (Nat.eq_of_beq_eq_true h1))⟩
      | false =>
        rw [h1] at h
        have h := h
        cases h2 : Nat.beq l2 0 with
        | true =>
          rw [h2] at h
          cases h
          exact ⟨rfl, _, mk_bool, none_ _ _ _ _ _ _ hX hY (.inr (Nat.eq_of_beq_eq_true h2))⟩
        | false =>
          rw [h2] at h
          cases h3 : Nat.beq b b2 with
          | true =>
            rw [h3] at h
            cases h
            have hb := Nat.eq_of_beq_eq_true h3
            subst hb
            rw [hg] at hg2
            cases hg2
            refine ⟨rfl, _, mk_bool, ?_⟩
            rw [hX, hY, run_over #[t, t] #[r] (by simp) hu hz]
            dsimp only
            have hl1 : l ≠ 0 := fun he => by rw [he] at h1; cases h1
            have hl2 : l2 ≠ 0 := fun he => by rw [he] at h2; cases h2
            have hand : ∀ a b : Bool, andB a b = (a && b) := fun a b => by cases a <;> rfl
            by_cases h0 : z = 0
            · rw [if_pos (.inr (.inr h0))]
              subst h0
              have e1 : andB (Nat.blt o (Nat.add o2 (Nat.mul l2 0))) (Nat.blt o2 (Nat.add o (Nat.mul l 0))) = false := by
                rw [hand]
                by_cases hlt : o < o2
                · have : Nat.blt o2 o = false := by
                    cases hb : Nat.blt o2 o with
                    | false => rfl
                    | true => rw [Nat.blt_eq] at hb; omega
                  show (Nat.blt o o2 && Nat.blt o2 o) = false
                  rw [this, Bool.and_false]
                · have : Nat.blt o o2 = false := by
                    cases hb : Nat.blt o o2 with
                    | false => rfl
                    | true => rw [Nat.blt_eq] at hb; omega
                  show (Nat.blt o o2 && Nat.blt o2 o) = false
                  rw [this, Bool.false_and]
              rw [e1]
              rfl
            · rw [if_neg (by simp [hl1, hl2, h0])]
              have e1 : ∀ a b : Nat, Nat.blt a b = decide (a < b) := fun a b => by
                rw [Bool.eq_iff_iff, Nat.blt_eq, decide_eq_true_iff]
              have e2 : (g.sh + o < g.sh + o2 + l2 * z) = (o < o2 + l2 * z) := by simp only [eq_iff_iff]; omega
              have e3 : (g.sh + o2 < g.sh + o + l * z) = (o2 < o + l * z) := by simp only [eq_iff_iff]; omega
              rw [hand, e1, e1]
              simp [frozen, Sem.run, e2, e3]
          | false =>
            rw [h3] at h
            have h : (m.get b).onCells (fun _ _ _ fz => bi fz none ((m.get b2).onCells (fun k _ _ _ => bi (Nat.beq k 0) none (one (.bool false) m)) none)) none = some (v, m') := h
            cases hb : m.get b <;> rw [hb] at h <;> first | (cases h; done) | skip
            rename_i n1 t1 T1 fz
            have h : bi fz none ((m.get b2).onCells (fun k _ _ _ => bi (Nat.beq k 0) none (one (.bool false) m)) none) = some (v, m') := h
            rw [bi_eq'] at h
            obtain ⟨hfz, h⟩ := h
            cases hb2 : m.get b2 <;> rw [hb2] at h <;> first | (cases h; done) | skip
            rename_i n2 t2 T2 fz2
            have h : bi (Nat.beq n2 0) none (one (.bool false) m) = some (v, m') := h
            rw [bi_eq'] at h
            obtain ⟨hn2, h⟩ := h
            cases h
            refine ⟨rfl, _, mk_bool, ?_⟩
            have hk1 := hR.at hg (by rw [hb]; simp)
            rw [hb] at hk1
            obtain ⟨A1, T1', fr1, a1, a2, a3, a4, a5, a6⟩ := hk1
            have hk2 := hR.at hg2 (by rw [hb2]; simp)
            rw [hb2] at hk2
            obtain ⟨A2, T2', fr2, b1, b2', b3, b4, b5, b6⟩ := hk2
            have hfr := a4 hfz
            subst hfr
            have hne : g.blk ≠ g2.blk := hR.dis b b2 g g2 (fun he => by rw [he, Nat.beq_refl] at h3; cases h3) hg hg2 (by rw [hb]; exact ownB_cells) (by rw [hb2]; simp)
            have hn2' : n2 ≠ 0 := fun he => by rw [he] at hn2; cases hn2
            rw [hX, hY]
            refine Lib.run_overlaps_apart w t r el hu z (Sx.run_sizeOf hz) _ _ _ _ _ _ hne T1' T2' A1.size A2.size ?_ ?_ (by omega) ?_ ?_
            · simp [World.shape?, a1]
            · simp [World.shape?, b1]
            · simp [World.frozen?, a1]
            · simp [World.frozen?, a1]
    · cases h
      exact ⟨rfl, _, mk_bool, none_ _ _ _ _ _ _ hX hY (.inr rfl)⟩
  · cases h
    have hYs : ∃ B lb cb, Y = .slice B lb cb := by
      rcases slK_ok hy hq with ⟨b2, o2, l2, g2, cq2, rfl, hg2, hY⟩ | ⟨rfl, B, cq2, hY⟩
      · exact ⟨_, _, _, hY⟩
      · exact ⟨_, _, _, hY⟩
    obtain ⟨B, lb, cb, hY⟩ := hYs
    exact ⟨rfl, _, mk_bool, none_ _ _ _ _ _ _ hX hY (.inl rfl)⟩
end Go.Proofs.YtiekoeapmhhjbaaGreatDoor.X
/- The interpreter is sound, part QL: the program's own facts. -/
namespace Go.Proofs.YtiekoeapmhhjbaaGreatDoor.X
open Go Go.RowKit
set_option linter.unusedVariables false
set_option linter.unusedSimpArgs false
set_option maxRecDepth 100000
theorem mixed_ok : P.follows .mixedOrders = true := by kernel_rfl
noncomputable def nameB (fn : Func) : Bool := fn.body.isNone || !(fn.name == "runtime.NumGoroutine")
theorem names_all : (P.funcs.toList.all nameB) = true := by kernel_rfl
theorem nameOK : NameOK := by
  intro f fn hf hb hn
  have h := names_all
  rw [List.all_eq_true] at h
  have h2 := h fn (List.mem_of_getElem? (by rw [Array.getElem?_toList]; exact hf))
  unfold nameB at h2
  rw [hb, hn] at h2
  simp at h2
theorem fn97 : P.funcs[97]? = some Tryz.f97 := by kernel_rfl
theorem fn298 : P.funcs[298]? = some Tryz.f298 := by kernel_rfl
theorem fn230 : P.funcs[230]? = some Tryz.f230 := by kernel_rfl
theorem fn275 : P.funcs[275]? = some Tryz.f275 := by kernel_rfl
theorem fn280 : P.funcs[280]? = some Tryz.f280 := by kernel_rfl
theorem exK_cases {f : Nat} {k : XK} (h : exK f = some k) : (f = 97 ∧ k = .clone) ∨ (f = 298 ∧ k = .cmp) ∨ ((f = 230 ∨ f = 275 ∨ f = 280) ∧ k = .overlaps) := by
  unfold exK at h
  cases h1 : Nat.beq f 97 with
  | true => rw [h1] at h; cases h; exact .inl ⟨Nat.eq_of_beq_eq_true h1, rfl⟩
  | false =>
    rw [h1] at h
    have h : bi (Nat.beq f 298) (some XK.cmp) (bi (bi (Nat.beq f 230) true (bi (Nat.beq f 275) true (Nat.beq f 280))) (some .overlaps) none) = some k := h
    cases h2 : Nat.beq f 298 with
    | true => rw [h2] at h; cases h; exact .inr (.inl ⟨Nat.eq_of_beq_eq_true h2, rfl⟩)
    | false =>
      rw [h2] at h
      have h : bi (bi (Nat.beq f 230) true (bi (Nat.beq f 275) true (Nat.beq f 280))) (some XK.overlaps) none = some k := h
      rw [bi_eq] at h
      obtain ⟨h3, h4⟩ := h
      cases h4
      refine .inr (.inr ⟨?_, rfl⟩)
      cases h5 : Nat.beq f 230 with
      | true => exact .inl (Nat.eq_of_beq_eq_true h5)
      | false =>
        rw [h5] at h3
        cases h6 : Nat.beq f 275 with
        | true => exact .inr (.inl (Nat.eq_of_beq_eq_true h6))
        | false =>
          rw [h6] at h3
          exact .inr (.inr (Nat.eq_of_beq_eq_true h3))
variable {c : Ctx} {Γ Γ' : Gm} {m m' : M} {w w' : World}
theorem ext_run {f : FuncId} {fn : Func} {g : Array Value → Sem Value} (hf : P.funcs[f]? = some fn) (hn : (fn.name == "runtime.NumGoroutine") = false) (hb : fn.body = none) (h1 : Extern.findNext fn = none) (h2 : Extern.find fn = some g) {args : List Value} {y : Value} (hr : (g args.toArray).run P w = .ok y w') :
    (callFunc f args.toArray).run P w = .ok (.value y) w' := by
  rw [run_callFunc_extern hf hn (by rw [hb]; rfl) h1 h2, hr]
  rfl
noncomputable def extK (fn : Func) (m : M) (k : XK) (vs : List V) : R1 := match k, vs with
  | .clone, [.iface t (.map r)] => xClone m t r
  | .cmp, [.str a, .str b] => bi (ltL a b) (one (.int .i64 18446744073709551615) m) (bi (ltL b a) (one (intV 1) m) (one (intV 0) m))
  | .overlaps, [x, y] => ob (headO fn.params.toList) fun t => xOver P m t x y
  | _, _ => none
theorem extern_eq {fn : Func} {f : FuncId} {vs : List V} {k : XK} (hk : exK f = some k) : extern fn f m vs = extK fn m k vs := by
  have e1 : extern fn f m vs = ob (exK f) fun k => extK fn m k vs := by kernel_rfl
  rw [e1, hk]
  rfl
theorem over_fn {f : FuncId} {fn : Func} {t r : TypeId} (hfn : P.funcs[f]? = some fn) (hp : fn.params = #[t, t]) (hn : (fn.name == "runtime.NumGoroutine") = false) (hb : fn.body = none) (h1 : Extern.findNext fn = none) (h2 : Extern.find fn = some (Extern.SlicesOverlaps.overlaps #[t, t] #[r])) {vs : List V} {args : List Value} {v : V} (hR : Rel c Γ m w) (hv : DVL c.ν Γ vs args)
    (h : extK fn m .overlaps vs = some (v, m')) : ∃ y Γ' w', LeG Γ Γ' ∧ Rel c Γ' m' w' ∧ DV c.ν Γ' v y ∧ (callFunc f args.toArray).run P w = .ok (.value y) w' := by
  match vs, h with
  | [x, y], h =>
    have h : ob (headO fn.params.toList) (fun t => xOver P m t x y) = some (v, m') := h
    rw [hp] at h
    have h : xOver P m t x y = some (v, m') := h
    obtain ⟨X, Y, rfl, hX, hY⟩ := dvl2 hv
    obtain ⟨rfl, z, hz, hr⟩ := over_ok (Q := P) (r := r) hR hX hY h
    exact ⟨z, Γ, w, LeG.refl _, hR, hz, ext_run hfn hn hb h1 h2 hr⟩
  | [], h => cases h
  | [_], h => cases h
  | _ :: _ :: _ :: _, h => cases h
theorem extOK : ExtOK := by
  intro c f fn m vs v m' Γ w args hf hb hR hv h
  have h' := h
  unfold extern at h'
  rw [ob_eq] at h'
  obtain ⟨k, hk, _⟩ := h'
  rw [extern_eq hk] at h
  rcases exK_cases hk with ⟨rfl, rfl⟩ | ⟨rfl, rfl⟩ | ⟨hff, rfl⟩
  · rw [fn97] at hf
    cases hf
    match vs, h with
    | [.iface t (.map r)], h =>
      have h : xClone m t r = some (v, m') := h
      obtain ⟨X, rfl, hX⟩ := dvl1 hv
      obtain ⟨z, w', Γ', hl, hR', hz, hr⟩ := clone_ok (Q := P) hR hX h
      exact ⟨z, Γ', w', hl, hR', hz, ext_run fn97 (by kernel_rfl) (by kernel_rfl) (by kernel_rfl) (g := Extern.MapsClone.clone) (by kernel_rfl) hr⟩
  · rw [fn298] at hf
    cases hf
    match vs, h with
    | [.str a, .str b], h =>
      have h : bi (ltL a b) (one (.int .i64 18446744073709551615) m) (bi (ltL b a) (one (intV 1) m) (one (intV 0) m)) = some (v, m') := h
      obtain ⟨X, Y, rfl, hX, hY⟩ := dvl2 hv
      obtain ⟨rfl, z, hz, hr⟩ := cmpS_ok (Q := P) (w := w) hX hY h
      exact ⟨z, Γ, w, LeG.refl _, hR, hz, ext_run fn298 (by kernel_rfl) (by kernel_rfl) (by kernel_rfl) (g := Extern.BytealgCompare.compare) (by kernel_rfl) hr⟩
  · rcases hff with rfl | rfl | rfl
    · rw [fn230] at hf
      cases hf
      exact over_fn fn230 (t := 272) (r := 4) (by kernel_rfl) (by kernel_rfl) (by kernel_rfl) (by kernel_rfl) (by kernel_rfl) hR hv h
    · rw [fn275] at hf
      cases hf
      exact over_fn fn275 (t := 279) (r := 4) (by kernel_rfl) (by kernel_rfl) (by kernel_rfl) (by kernel_rfl) (by kernel_rfl) hR hv h
    · rw [fn280] at hf
      cases hf
      exact over_fn fn280 (t := 75) (r := 4) (by kernel_rfl) (by kernel_rfl) (by kernel_rfl) (by kernel_rfl) (by kernel_rfl) hR hv h
end Go.Proofs.YtiekoeapmhhjbaaGreatDoor.X
/- The interpreter is sound, part QM: structs that are compared; what is known of the calls that have names; the whole. -/
namespace Go.Proofs.YtiekoeapmhhjbaaGreatDoor.X
open Go Go.RowKit
set_option linter.unusedVariables false
set_option linter.unusedSimpArgs false
set_option maxRecDepth 100000
set_option maxHeartbeats 0
noncomputable def stB (Q : Program) : Nat → TypeId → Bool
  | 0, _ => false
  | n + 1, t => match Q.underlying t with
    | some (.struct fs) => !Q.stoodInHeld t && fs.toList.all fun f => !(f.name == "_") && stB Q n f.type
    | _ => match (Q.info? t).map (·.size) with
      | some k => Nat.beq k 1
      | none => false
theorem stB_spec (Q : Program) : ∀ (n : Nat) (t : TypeId), stB Q n t = true → StOK Q n t
  | 0, t, h => by cases h
  | n + 1, t, h => by
    unfold stB at h
    unfold StOK
    have leaf : (match (Q.info? t).map (·.size) with
      | some k => Nat.beq k 1
      | none => false) = true → (Q.info? t).map (·.size) = some 1 := fun h => by
      cases hi : (Q.info? t).map (·.size) with
      | none => rw [hi] at h; cases h
      | some k => rw [hi] at h; rw [Nat.eq_of_beq_eq_true h]
    cases hu : Q.underlying t with
    | none => rw [hu] at h; exact leaf h
    | some d =>
      rw [hu] at h
      cases d
      case struct fs =>
        simp only [Bool.and_eq_true, Bool.not_eq_true', List.all_eq_true] at h
        refine ⟨h.1, fun f hf => ?_⟩
        have := h.2 f hf
        exact ⟨by simpa using this.1, stB_spec Q n f.type this.2⟩
      all_goals exact leaf h
theorem eqTs_ok : EqTs P := by
  intro t ht
  have h : t = 45 ∨ t = 47 ∨ t = 123 := by
    have h' : bi (Nat.beq t 45) true (bi (Nat.beq t 47) true (bi (Nat.beq t 123) true false)) = true := ht
    cases h1 : Nat.beq t 45 with
    | true => exact .inl (Nat.eq_of_beq_eq_true h1)
    | false =>
      rw [h1] at h'
      cases h2 : Nat.beq t 47 with
      | true => exact .inr (.inl (Nat.eq_of_beq_eq_true h2))
      | false =>
        rw [h2] at h'
        cases h3 : Nat.beq t 123 with
        | true => exact .inr (.inr (Nat.eq_of_beq_eq_true h3))
        | false => rw [h3] at h'; cases h'
  rcases h with rfl | rfl | rfl
  · exact ⟨stB_spec P 3 45 (by kernel_rfl), by kernel_rfl⟩
  · exact ⟨stB_spec P 3 47 (by kernel_rfl), by kernel_rfl⟩
  · exact ⟨stB_spec P 3 123 (by kernel_rfl), by kernel_rfl⟩
theorem facts : Facts := ⟨eqTs_ok, extOK, nameOK, mixed_ok⟩
/-! ### a call that looks at no memory -/
noncomputable def hk0 : Hk := fun _ => none
theorem hk0_ok : HkOK hk0 := fun f g h => by cases h
noncomputable def nil5 : T5 Blk := al8 (al8 (al8 (al8 (al8 .dead))))
noncomputable def nilM : M := ⟨6, nil5, []⟩
theorem nilM_get (k : Nat) : nilM.get k = .dead := by
  show g5 .dead k nil5 = .dead
  rw [g5_f]
  exact (mapl5 Blk.dead).zz k
variable {c : Ctx} {Γ Γ' : Gm} {m m' : M} {w w' : World}
theorem nilM_rel (hR : Rel c Γ m w) : Rel { c with pr := fun q => w.heap[q]?, r0 := fun _ => .dead } (fun k => if k < 6 then Γ k else none) nilM w where
  os := hR.os
  tape := hR.tape
  output := hR.output
  dom := fun k g hk => by
    by_cases h6 : k < 6
    · rw [if_pos h6] at hk
      exact ⟨h6, (hR.dom k g hk).2⟩
    · rw [if_neg h6] at hk; cases hk
  glob := fun k hk => by
    rw [if_pos hk]
    exact hR.glob k hk
  hold := fun k hk => absurd (nilM_get k) hk
  dis := fun j k gj gk hjk hj hk hjo hkd => absurd (nilM_get k) hkd
  prot := fun b o hb => ⟨hb, fun k g hk hkd => absurd (nilM_get k) hkd⟩
  lg := fun k _ => nilM_get k
  gl := fun g hg => by
    obtain ⟨A, T, fr, y, h1, h2, h3, h4⟩ := hR.gl g hg
    exact ⟨A, T, fr, y, (hR.prot g _ h1).1, h2, h3, h4⟩
theorem back_rel {m0 : M} {Γ0 : Gm} (hR : Rel c Γ m w) (h : Rel { c with pr := fun q => w.heap[q]?, r0 := fun _ => .dead } Γ0 m0 w') : Rel c Γ m w' := by
  refine hR.idle (h.os.trans hR.os.symm) (h.tape.trans hR.tape.symm) (h.output.trans hR.output.symm) ?_ (fun j hj => ?_)
  · refine Nat.le_of_not_lt fun hlt => ?_
    have h1 := (h.prot w'.heap.size _ (Array.getElem?_eq_getElem hlt)).1
    have := (Array.getElem?_eq_some_iff.1 h1).1
    omega
  · rw [Array.getElem?_eq_getElem hj]
    exact (h.prot j _ (Array.getElem?_eq_getElem hj)).1
/-- What is known of a value wherever it lies. -/
def Closed (v : V) : Prop := ∀ (ν : Nat → Value → Prop) (Γ Γ' : Gm) (x : Value), DV ν Γ v x → DV ν Γ' v x
theorem pure_call (f : FuncId) (vs : List V) (v0 : V) (hv0 : Closed v0) (n : Nat) (hrun : Yes (call hk0 n nilM f vs (fun v m => bi (eqV 4 v v0) (yesA m) none))) {args : List Value} {K : Kt} (hR : Rel c Γ m w) (hv : DVL c.ν (fun k => if k < 6 then Γ k else none) vs args) (hK : Yes (K v0 m)) : CallOK c Γ K f args w := by
  have key : ∀ v y m' Γ' w', Rel { c with pr := fun q => w.heap[q]?, r0 := fun _ => .dead } Γ' m' w' → DV c.ν Γ' v y → Yes (bi (eqV 4 v v0) (yesA m') none) → Rel c Γ m w' ∧ DV c.ν Γ v0 y := fun v y m' Γ' w' h1 h2 h3 => by
    obtain ⟨h4, _⟩ := yes_bi h3
    rw [eqV_eq 4 h4] at h2
    exact ⟨back_rel hR h1, hv0 _ _ _ _ h2⟩
  obtain ⟨fn, hf, ⟨hb, hC⟩ | ⟨hb, v, y, m', Γ', w', hl, hR', hy', hk, hr⟩⟩ := call_ok (c := { c with pr := fun q => w.heap[q]?, r0 := fun _ => .dead }) facts (drawOK facts) hk0_ok n (nilM_rel hR) hv hrun
  · refine ⟨fn, hf, .inl ⟨hb, hC.mono fun x w' hE => ?_⟩⟩
    obtain ⟨v, y, m', Γ', rfl, hl, hR', hy', hk⟩ := hE
    obtain ⟨k1, k2⟩ := key v y m' Γ' w' hR' hy' hk
    exact ⟨v0, y, m, Γ, rfl, LeG.refl _, k1, k2, hK⟩
  · obtain ⟨k1, k2⟩ := key v y m' Γ' w' hR' hy' hk
    exact ⟨fn, hf, .inr ⟨hb, v0, y, m, Γ, w', LeG.refl _, k1, k2, hK, hr⟩⟩
theorem ints_closed {ν : Nat → Value → Prop} : ∀ {l : List Nat} {ys : List Value}, DVL ν Γ (mapL (fun n => V.int .u32 n) l) ys → DVL ν Γ' (mapL (fun n => V.int .u32 n) l) ys
  | [], ys, h => by
    have h : DVL ν Γ [] ys := h
    rw [DVL] at h
    subst h
    exact DVL.nil
  | n :: l, ys, h => by
    have h : DVL ν Γ (V.int .u32 n :: mapL (fun n => V.int .u32 n) l) ys := h
    rw [DVL] at h
    obtain ⟨y, s, rfl, h1, h2⟩ := h
    exact DVL.cons (by rw [DV] at h1 ⊢; exact h1) (ints_closed h2)
theorem crc_closed : Closed crcV := fun ν Γ Γ' x h => by
  unfold crcV at h ⊢
  rw [DV] at h ⊢
  obtain ⟨ys, h1, h2⟩ := h
  exact ⟨ys, ints_closed h1, h2⟩
noncomputable def okA (a : A) : Bool := Option.rec false (fun _ => true) a
theorem okA_yes {a : A} (h : okA a = true) : Yes a := by
  cases a with
  | none => cases h
  | some r => exact ⟨r, rfl⟩
theorem crc_run : okA (call hk0 1000000 nilM 254 [.int .u32 3988292384] (fun v m => bi (eqV 4 v crcV) (yesA m) none)) = true := by kernel_rfl
theorem prim_ok (X : Ex) : SndFn 254 (primOf X) := by
  intro c m vs K Γ w args hR hv hy
  cases vs with
  | nil => exact (yes_none hy).elim
  | cons x r =>
    have hy : Yes (x.onInt (fun k p => bi (Nat.beq (kn k) 6) (bi (isNil r) (bi (Nat.beq p 3988292384) (K crcV m) none) none) none) none) := hy
    obtain ⟨k, p, rfl, hy⟩ := yes_onInt hy
    obtain ⟨h1, hy⟩ := yes_bi hy
    obtain ⟨h2, hy⟩ := yes_bi hy
    obtain ⟨h3, hy⟩ := yes_bi hy
    have hk : k = .u32 := kn_inj (q := .u32) h1
    rw [isNil_iff] at h2
    have hp := Nat.eq_of_beq_eq_true h3
    subst hk h2 hp
    refine pure_call 254 _ crcV crc_closed 1000000 (okA_yes crc_run) hR ?_ hy
    rw [DVL] at hv
    obtain ⟨y, s, rfl, h4, h5⟩ := hv
    rw [DVL] at h5
    subst h5
    exact DVL.cons (by rw [DV] at h4 ⊢; exact h4) DVL.nil
theorem hooks : HkOK hookF := by
  intro f g h n X hX
  unfold hookF at h
  cases h1 : Nat.beq f 254 with
  | true =>
    rw [h1] at h
    cases h
    have := Nat.eq_of_beq_eq_true h1
    subst this
    exact prim_ok X
  | false =>
    rw [h1] at h
    have h : bi (bi (Nat.beq f 35) true (bi (Nat.beq f 108) true (Nat.beq f 10))) (some (ndRun (cFun f))) none = some g := h
    rw [bi_eq] at h
    obtain ⟨_, h⟩ := h
    cases h
    exact ndRun_ok facts hX f
/-- The interpreter's word is the program's. -/
theorem sound (n : Nat) {f : Nat} {vs : List V} {args : List Value} {K : Kt} (hR : Rel c Γ m w) (hv : DVL c.ν Γ vs args) (hy : Yes (call hookF n m f vs K)) : CallOK c Γ K f args w :=
  call_ok facts (drawOK facts) hooks n hR hv hy
end Go.Proofs.YtiekoeapmhhjbaaGreatDoor.X
/- A law's run: from a world of which nothing is asked but that its variables lie there. -/
namespace Go.Proofs.YtiekoeapmhhjbaaGreatDoor.X
open Go Go.RowKit
set_option linter.unusedVariables false
set_option linter.unusedSimpArgs false
set_option maxRecDepth 100000
set_option maxHeartbeats 0
variable {c : Ctx} {Γ Γ' : Gm} {m m' : M} {w w' : World}
/-- A call whose run makes blocks only. -/
theorem blocks_call {h : Hk} (hh : HkOK h) (f : FuncId) (vs : List V) (v0 : V) (hv0 : Closed v0) (n : Nat) (hrun : Yes (call h n nilM f vs (fun v m => bi (leV v0 v) (yesA m) none))) {args : List Value} {K : Kt} (hR : Rel c Γ m w) (hv : DVL c.ν (fun k => if k < 6 then Γ k else none) vs args) (hK : Yes (K v0 m)) : CallOK c Γ K f args w := by
  have key : ∀ v y m' Γ' w', Rel { c with pr := fun q => w.heap[q]?, r0 := fun _ => .dead } Γ' m' w' → DV c.ν Γ' v y → Yes (bi (leV v0 v) (yesA m') none) → Rel c Γ m w' ∧ DV c.ν Γ v0 y := fun v y m' Γ' w' h1 h2 h3 => by
    obtain ⟨h4, _⟩ := yes_bi h3
    exact ⟨back_rel hR h1, hv0 _ _ _ _ (leV_ok h4 h2)⟩
  obtain ⟨fn, hf, ⟨hb, hC⟩ | ⟨hb, v, y, m', Γ', w', hl, hR', hy', hk, hr⟩⟩ := call_ok (c := { c with pr := fun q => w.heap[q]?, r0 := fun _ => .dead }) facts (drawOK facts) hh n (nilM_rel hR) hv hrun
  · refine ⟨fn, hf, .inl ⟨hb, hC.mono fun x w' hE => ?_⟩⟩
    obtain ⟨v, y, m', Γ', rfl, hl, hR', hy', hk⟩ := hE
    obtain ⟨k1, k2⟩ := key v y m' Γ' w' hR' hy' hk
    exact ⟨v0, y, m, Γ, rfl, LeG.refl _, k1, k2, hK⟩
  · obtain ⟨k1, k2⟩ := key v y m' Γ' w' hR' hy' hk
    exact ⟨fn, hf, .inr ⟨hb, v0, y, m, Γ, w', LeG.refl _, k1, k2, hK, hr⟩⟩
theorem true_closed : Closed (.bool true) := fun ν Γ Γ' x h => by rw [DV] at h ⊢; exact h
/-- Does the call come to true? -/
noncomputable def runB (h : Hk) (f : FuncId) (vs : List V) : Bool := okA (call h 1000000 nilM f vs (fun v m => bi (leV (.bool true) v) (yesA m) none))
theorem awk_ok {f : FuncId} (hrun : runB hookF f [] = true) (X : Ex) : SndFn f (awk X) := by
  intro c m vs K Γ w args hR hv hy
  obtain ⟨h1, hy⟩ := yes_bi hy
  rw [isNil_iff] at h1
  subst h1
  rw [DVL] at hv
  subst hv
  exact blocks_call hooks f [] (.bool true) true_closed 1000000 (okA_yes hrun) hR DVL.nil hy
/-! ### from the start -/
/-- What the opaque numbers stand for: from 1000 on the variables' values. -/
def glN (W : World) : Nat → Value → Prop := fun i x => ∃ g A T fr, g < 2 ∧ i = 1000 + g ∧ W.heap[g]? = some (.cells A T fr) ∧ A[0]? = some x
/-- What the names stand for: three numbers; the variables' values; others. -/
structure Nm where
  (z0 z1 z2 : Nat)
  μ : Nat → Value → Prop
  h0 : z0 ≤ 60
  h1 : z1 ≤ 26
  h2 : 26 ≤ z2
  h3 : z2 ≤ 60
  inp : ∀ s x, s < 16 → μ (2000 + s) x → ∃ n : Nat, n < 256 ∧ x = .int .u8 n ∧ n % 16 = s
  nam : ∀ a x, a < 256 → μ (3000 + a) x → ∃ n : Nat, n < 256 ∧ x = .int .u8 n ∧ ClsOK (a / 16) 8 (n % 9) ∧ ClsOK (a % 16) 28 (n / 9)
  byt : ∀ a x, a < 16 → μ (4000 + a) x → ∃ n : Nat, n < 256 ∧ x = .int .u8 n ∧ ((a / 4 = 0 → n = z1) ∧ (a / 4 = 1 → n = z2) ∧ (a / 4 = 2 → 60 ≤ n)) ∧ μ (5000 + a % 4) (.int .u8 (n / 2 : Nat))
  hlf : ∀ a x, a < 4 → μ (5000 + a) x → ∃ n : Nat, n < 256 ∧ x = .int .u8 n ∧ ((a = 0 → n = z1) ∧ (a = 1 → n = z2) ∧ (a = 2 → 60 ≤ n))
def Nm.ν (N : Nm) (W : World) : Nat → Value → Prop := nuOf N.z0 N.z1 N.z2 fun i x => glN W i x ∨ N.μ i x
theorem Nm.ok (N : Nm) (W : World) : NuOK (N.ν W) := by
  have far : ∀ {i x}, 2000 ≤ i → (glN W i x ∨ N.μ i x) → N.μ i x := fun hi h => by
    rcases h with ⟨g, A, T, fr, h1, h2, _⟩ | h
    · omega
    · exact h
  refine nuOf_ok N.h0 N.h1 N.h2 N.h3 (fun s x hs h => N.inp s x hs (far (by omega) h)) (fun a x ha h => N.nam a x ha (far (by omega) h)) (fun a x ha h => ?_) (fun a x ha h => N.hlf a x ha (far (by omega) h))
  obtain ⟨n, n1, n2, n3, n4⟩ := N.byt a x ha (far (by omega) h)
  exact ⟨n, n1, n2, n3, .inr n4⟩
def noNm : Nm := ⟨0, 0, 26, fun _ _ => False, by decide, by decide, by decide, by decide, fun _ _ _ h => h.elim, fun _ _ _ h => h.elim, fun _ _ _ h => h.elim, fun _ _ _ h => h.elim⟩
def startC (N : Nm) (W : World) : Ctx := { ν := N.ν W, nu := N.ok W, w0 := W, pr := fun q => W.heap[q]?, r0 := fun _ => .dead }
def startG : Gm := fun k => if k < 6 then some ⟨k, 0, 0⟩ else none
/-- The variables lie there. -/
structure Start (W : World) : Prop where
  six : 6 ≤ W.heap.size
  vars : ∀ g, g < 2 → ∃ A T fr y, W.heap[g]? = some (.cells A T fr) ∧ A[0]? = some y ∧ y.oneCell' = true
theorem start_rel (N : Nm) {W : World} (h6 : Start W) : Rel (startC N W) startG nilM W where
  os := rfl
  tape := rfl
  output := rfl
  dom := fun k g hk => by
    unfold startG at hk
    by_cases h : k < 6
    · rw [if_pos h] at hk
      cases hk
      have := h6.six
      exact ⟨h, by show k < _; omega⟩
    · rw [if_neg h] at hk; cases hk
  glob := fun k hk => ⟨0, if_pos hk⟩
  hold := fun k hk => absurd (nilM_get k) hk
  dis := fun j k gj gk hjk hj hk hjo hkd => absurd (nilM_get k) hkd
  prot := fun b o hb => ⟨hb, fun k g hk hkd => absurd (nilM_get k) hkd⟩
  lg := fun k _ => nilM_get k
  gl := fun g hg => by
    obtain ⟨A, T, fr, y, h1, h2, h3⟩ := h6.vars g hg
    refine ⟨A, T, fr, y, h1, h2, h3, ?_⟩
    show N.ν W (1000 + g) y
    unfold Nm.ν nuOf
    iterate 9 right
    exact ⟨by omega, .inl ⟨g, A, T, fr, hg, rfl, h1, h2⟩⟩
theorem end_below {c : Ctx} {W W' : World} {Γ : Gm} {m : M} (h : Rel c Γ m W') (h1 : c.w0 = W) (h2 : ∀ q, c.pr q = W.heap[q]?) : Below W.heap.size W W' := by
  have hb : ∀ k, k < W.heap.size → W'.heap[k]? = W.heap[k]? := fun k hk => by
    rw [Array.getElem?_eq_getElem hk]
    exact (h.prot k _ (by rw [h2]; exact Array.getElem?_eq_getElem hk)).1
  refine ⟨h1 ▸ h.os, h1 ▸ h.tape, h1 ▸ h.output, Nat.le_of_not_lt fun hlt => ?_, hb⟩
  have h1 := hb W'.heap.size hlt
  rw [Array.getElem?_eq_getElem hlt] at h1
  have := (Array.getElem?_eq_some_iff.1 h1).1
  omega
/-- A law comes to true wherever its run does. -/
theorem law_true {h : Hk} (hh : HkOK h) {f : FuncId} {vs : List V} (hrun : runB h f vs = true) (hB : hasB f = true) {W : World} (h6 : Start W) {args : List Value} (hv : ∀ ν, DVL ν startG vs args) :
    Calls P f args.toArray W fun x W' => x = .returned (.bool true) ∧ Below W.heap.size W W' := by
  obtain ⟨fn, hf, hc⟩ := call_ok (c := startC noNm W) facts (drawOK facts) hh 1000000 (start_rel _ h6) (hv _) (okA_yes hrun)
  have hb := hasB_some hB hf
  have hC := hc.resolve_right (fun h2 => by rw [hb] at h2; exact absurd h2.1 (by simp))
  refine hC.2.mono fun x W' hE => ?_
  obtain ⟨v, y, m', Γ', rfl, hl, hR', hy', hk⟩ := hE
  obtain ⟨h4, _⟩ := yes_bi hk
  have := leV_ok h4 hy'
  rw [dv_bool this]
  exact ⟨rfl, end_below hR' rfl fun _ => rfl⟩
end Go.Proofs.YtiekoeapmhhjbaaGreatDoor.X
/- A memory that says less: its blocks have other numbers. -/
namespace Go.Proofs.YtiekoeapmhhjbaaGreatDoor.X
open Go Go.RowKit
set_option linter.unusedVariables false
set_option linter.unusedSimpArgs false
set_option maxRecDepth 100000
set_option maxHeartbeats 0
noncomputable section
/-- Which block stands for one of the lesser memory. -/
def sg (l : List Nat) (k : Nat) : Nat := bi (Nat.blt k 6) k (nthN l (Nat.sub k 6))
/-- Has a row as many cells as is said? -/
def zRow (zt v : V) : Bool := match v with
  | .slice _ _ l _ => match zt with
    | .int .i64 n => Nat.beq n l
    | _ => false
  | .nilS => isZ zt
  | .emp _ => isZ zt
  | .opq j => match zt with
    | .opq i => Option.rec false (fun f => Option.rec false (fun g => Nat.beq f g) (famS j)) (famN i)
    | _ => false
  | _ => false
def ztOK (zt : V) : Bool := match zt with
  | .int .i64 n => Nat.ble n 60
  | .opq i => isSome (famN i)
  | _ => false
def cutV (l : List Nat) (n : Nat) (zt a b : V) : Bool := match a, b with
  | .any, _ => true
  | .bool x, .bool y => eqBo x y
  | .int k x, .int q y => bi (Nat.beq (kn k) (kn q)) (Nat.beq x y) false
  | .rng k lo hi, .int q x => bi (Nat.beq (kn k) (kn q)) (bi (Nat.ble lo x) (Nat.ble x hi) false) false
  | .rng k lo hi, .rng q lo' hi' => bi (Nat.beq (kn k) (kn q)) (bi (Nat.ble lo lo') (Nat.ble hi' hi) false) false
  | .str s, .str t => eqS s t
  | .nilP, .nilP => true
  | .nilS, .nilS => true
  | .nilM, .nilM => true
  | .nilF, .nilF => true
  | .nilI, .nilI => true
  | .ptr x o, .ptr y q => bi (Nat.blt x n) (bi (Nat.beq (sg l x) y) (Nat.beq o q) false) false
  | .slice x o m c, .slice y q k d => bi (Nat.blt x n) (bi (Nat.beq (sg l x) y) (bi (Nat.beq o q) (bi (Nat.beq m k) (eqCap c d) false) false) false) false
  | .map x, .map y => bi (Nat.blt x n) (Nat.beq (sg l x) y) false
  | .opq i, b => bi (Nat.beq i 100) (eqV 2 zt b) (bi (Nat.beq i 110) (zRow zt b) false)
  | _, _ => false
def cutEs (l : List Nat) (n : Nat) (zt : V) (es : List (V × V × Nat)) : List (V × V × Nat) → Bool := lrec (fun b => isNil b) (fun (x : V × V × Nat) _ ih b => List.rec false (fun (y : V × V × Nat) r _ => bi (cutV l n zt x.1 y.1) (bi (cutV l n zt x.2.1 y.2.1) (bi (Nat.beq x.2.2 y.2.2) (ih r) false) false) false) b) es
def cutCs (l : List Nat) (n : Nat) (zt : V) (t u : Cs) (k : Nat) : Bool := nrec (fun (_ : Unit) => true) (fun i ih v => bi (cutV l n zt (gC i t) (gC i u)) (ih v) false) k ()
def cutB (l : List Nat) (n : Nat) (zt : V) (a b : Blk) : Bool := match a, b with
  | .cells k t T f, .cells q u S g => bi (Nat.ble k q) (bi (eqBo f g) (cutCs l n zt t u k) false) false
  | .map es c, .map fs d => bi (Nat.beq c d) (cutEs l n zt es fs) false
  | _, _ => false
def cutM (l : List Nat) (n : Nat) (zt : V) (bs : List (Nat × Blk)) (m : M) : Bool := allB (fun x => bi (Nat.ble 6 x.1) (bi (Nat.blt x.1 n) (cutB l n zt x.2 (m.get (sg l x.1))) false) false) bs
def noDup (l : List Nat) : Bool := lrec true (fun x r ih => bi (memN x r) false ih) l
def mkM (n : Nat) (bs : List (Nat × Blk)) : M := lrec ⟨n, nil5, []⟩ (fun x _ ih => ih.put x.1 x.2) bs
def mkE (ts : List (Nat × V)) : En := lrec en0 (fun x _ ih => uE x.1 x.2 ih) ts
/-- How a value was told, and all that there is, in the lesser memory. -/
def cutAll (l : List Nat) (n : Nat) (zt : V) (bs : List (Nat × Blk)) (m : M) : Bool := bi (ztOK zt) (bi (Nat.beq (Nat.add 6 (len l)) n) (bi (noDup l) (cutM l n zt bs m) false) false) false
end
theorem memN_iff {k : Nat} : ∀ {l : List Nat}, memN k l = true ↔ k ∈ l
  | [] => by constructor <;> intro h <;> cases h
  | x :: r => by
    have e : memN k (x :: r) = bi (Nat.beq k x) true (memN k r) := rfl
    rw [e, List.mem_cons]
    cases h : Nat.beq k x with
    | true => rw [Nat.beq_eq] at h; subst h; exact ⟨fun _ => .inl rfl, fun _ => rfl⟩
    | false =>
      rw [bi_f, memN_iff (l := r)]
      refine ⟨.inr, fun h2 => h2.resolve_left ?_⟩
      rintro rfl
      rw [Nat.beq_refl] at h
      cases h
theorem noDup_nodup : ∀ {l : List Nat}, noDup l = true → l.Nodup
  | [], _ => List.nodup_nil
  | x :: r, h => by
    have h' : bi (memN x r) false (noDup r) = true := h
    cases hm : memN x r with
    | true => rw [hm] at h'; cases h'
    | false =>
      rw [hm] at h'
      refine List.nodup_cons.2 ⟨fun hx => ?_, noDup_nodup h'⟩
      rw [memN_iff.2 hx] at hm
      cases hm
theorem nthN_lt (l : List Nat) (i : Nat) (h : i < l.length) : nthN l i = l[i] := by
  unfold nthN
  rw [dropL_eq, headO_eq]
  have : (l.drop i).head? = some l[i] := by simp [h]
  rw [this]
theorem sg_inj {l : List Nat} (h : noDup l = true) {j k : Nat} (hj : 6 ≤ j) (hk : 6 ≤ k) (hj2 : j < 6 + l.length) (hk2 : k < 6 + l.length) (he : sg l j = sg l k) : j = k := by
  have f : ∀ i, 6 ≤ i → sg l i = nthN l (i - 6) := fun i hi => by
    unfold sg
    cases hb : Nat.blt i 6 with
    | true => rw [Nat.blt_eq] at hb; omega
    | false => rfl
  rw [f j hj, f k hk, nthN_lt l _ (by omega), nthN_lt l _ (by omega)] at he
  have hp := List.pairwise_iff_getElem.1 (noDup_nodup h)
  rcases Nat.lt_trichotomy (j - 6) (k - 6) with hlt | heq | hgt
  · exact absurd he (hp _ _ (by omega) (by omega) hlt)
  · omega
  · exact absurd he.symm (hp _ _ (by omega) (by omega) hgt)
theorem bi_and2 {b d : Bool} (h : bi b d false = true) : b = true ∧ d = true := bi_and h
section
variable {c c' : Ctx} {Γ Γ' : Gm} {m m' : M} {w w' : World} {l : List Nat} {n : Nat} {zt : V}
/-- What the number is. -/
theorem zt_ok (h : ztOK zt = true) : ∃ z : Nat, z ≤ 60 ∧ (∀ X, DV c.ν Γ zt X → X = .int .i64 z) ∧ ∀ b X, zRow zt b = true → DV c.ν Γ b X → SlZ z X := by
  unfold ztOK at h
  split at h
  · rename_i n
    rw [Nat.ble_eq] at h
    refine ⟨n, h, fun X hX => by rw [dv_int hX, wrap64 (by omega)], fun b X hb hX => ?_⟩
    unfold zRow at hb
    split at hb
    · rename_i x o q cp
      have hb' : Nat.beq n q = true := hb
      rw [Nat.beq_eq] at hb'
      subst hb'
      obtain ⟨g, p, hg, hcap, rfl⟩ := dv_slice hX
      exact ⟨_, p, hcap.1, rfl⟩
    · have hb' : Nat.beq n 0 = true := hb
      rw [Nat.beq_eq] at hb'
      subst hb'
      rw [dv_nilS hX]
      exact ⟨_, 0, Nat.le_refl _, rfl⟩
    · have hb' : Nat.beq n 0 = true := hb
      rw [Nat.beq_eq] at hb'
      subst hb'
      obtain ⟨a, p, _, rfl⟩ := dv_emp hX
      exact ⟨_, p, Nat.zero_le _, rfl⟩
    · cases hb
    · cases hb
  · rename_i i
    cases hf : famN i with
    | none => rw [hf] at h; cases h
    | some f =>
      obtain ⟨rfl, f3⟩ := famN_eq hf
      obtain ⟨z, z1, z2, hN, hS, _⟩ := c.nu.fam f f3
      have := hiF_le f
      refine ⟨z, by omega, fun X hX => (hN _).1 (dv_opq hX).1, fun b X hb hX => ?_⟩
      unfold zRow at hb
      split at hb
      · cases hb
      · cases hb
      · cases hb
      · rename_i j
        have hb' : Option.rec (motive := fun _ => Bool) false (fun f => Option.rec (motive := fun _ => Bool) false (fun g => Nat.beq f g) (famS j)) (famN (100 + f)) = true := hb
        rw [hf] at hb'
        cases hg : famS j with
        | none => rw [hg] at hb'; cases hb'
        | some g =>
          rw [hg] at hb'
          have hb' : Nat.beq f g = true := hb'
          rw [Nat.beq_eq] at hb'
          subst hb'
          obtain ⟨rfl, _⟩ := famS_eq hg
          exact (hS _).1 (dv_opq hX).1
      · cases hb
  · cases h
theorem cutV_ok (hΓ : ∀ k g, k < n → Γ (sg l k) = some g → Γ' k = some g) (hz : ∀ X, DV c.ν Γ zt X → c'.ν 100 X ∧ X.oneCell' = true) (hr : ∀ b X, zRow zt b = true → DV c.ν Γ b X → c'.ν 110 X ∧ X.oneCell' = true)
    {a b : V} {X : Value} (h : cutV l n zt a b = true) (hb : DV c.ν Γ b X) : DV c'.ν Γ' a X := by
  unfold cutV at h
  split at h
  · rw [DV]; trivial
  · rw [eqBo_eq, beq_iff_eq] at h
    subst h
    rw [DV] at hb ⊢; exact hb
  · obtain ⟨h1, h2⟩ := bi_and h
    have := kn_inj h1
    rw [Nat.beq_eq] at h2
    subst this h2
    rw [DV] at hb ⊢; exact hb
  · obtain ⟨h1, h⟩ := bi_and h
    obtain ⟨h2, h3⟩ := bi_and h
    have := kn_inj h1
    subst this
    rw [Nat.ble_eq] at h2 h3
    rw [dv_int hb, DV]
    exact ⟨_, h2, h3, rfl⟩
  · obtain ⟨h1, h⟩ := bi_and h
    obtain ⟨h2, h3⟩ := bi_and h
    have := kn_inj h1
    subst this
    rw [Nat.ble_eq] at h2 h3
    obtain ⟨n, n1, n2, rfl⟩ := dv_rng hb
    rw [DV]
    exact ⟨n, Nat.le_trans h2 n1, Nat.le_trans n2 h3, rfl⟩
  · have := eqS_eq h
    subst this
    rw [DV] at hb ⊢; exact hb
  · rw [DV] at hb ⊢; exact hb
  · rw [DV] at hb ⊢; exact hb
  · rw [DV] at hb ⊢; exact hb
  · rw [DV] at hb ⊢; exact hb
  · rw [DV] at hb ⊢; exact hb
  · obtain ⟨h1, h⟩ := bi_and h
    obtain ⟨h2, h3⟩ := bi_and h
    rw [Nat.blt_eq] at h1
    rw [Nat.beq_eq] at h2 h3
    subst h2 h3
    obtain ⟨g, hg, rfl⟩ := dv_ptr hb
    rw [DV]
    exact ⟨g, hΓ _ _ h1 hg, rfl⟩
  · obtain ⟨h1, h⟩ := bi_and h
    obtain ⟨h2, h⟩ := bi_and h
    obtain ⟨h3, h⟩ := bi_and h
    obtain ⟨h4, h5⟩ := bi_and h
    rw [Nat.blt_eq] at h1
    rw [Nat.beq_eq] at h2 h3 h4
    have h5 := eqCap_eq h5
    subst h2 h3 h4 h5
    obtain ⟨g, p, hg, hc, rfl⟩ := dv_slice hb
    rw [DV]
    exact ⟨g, p, hΓ _ _ h1 hg, hc, rfl⟩
  · obtain ⟨h1, h2⟩ := bi_and h
    rw [Nat.blt_eq] at h1
    rw [Nat.beq_eq] at h2
    subst h2
    obtain ⟨g, hg, rfl⟩ := dv_map hb
    rw [DV]
    exact ⟨g, hΓ _ _ h1 hg, rfl⟩
  · rename_i b i
    cases h1 : Nat.beq i 100 with
    | true =>
      rw [h1, bi_t] at h
      rw [Nat.beq_eq] at h1
      have := eqV_eq 2 h
      subst this h1
      exact mk_opq (hz _ hb).1 (hz _ hb).2
    | false =>
      rw [h1, bi_f] at h
      obtain ⟨h2, h3⟩ := bi_and h
      rw [Nat.beq_eq] at h2
      subst h2
      exact mk_opq (hr _ _ h3 hb).1 (hr _ _ h3 hb).2
  · cases h
theorem cutCs_spec {t u : Cs} : ∀ {k : Nat}, cutCs l n zt t u k = true → ∀ i, i < k → cutV l n zt (gC i t) (gC i u) = true
  | 0, _, i, hi => by omega
  | k + 1, h, i, hi => by
    have h' : bi (cutV l n zt (gC k t) (gC k u)) (cutCs l n zt t u k) false = true := h
    obtain ⟨h1, h2⟩ := bi_and h'
    rcases Nat.lt_or_ge i k with hlt | hge
    · exact cutCs_spec h2 i hlt
    · have : i = k := by omega
      subst this
      exact h1
theorem cutEs_ok (hV : ∀ a b X, cutV l n zt a b = true → DV c.ν Γ b X → DV c'.ν Γ' a X) : ∀ {es fs : List (V × V × Nat)} {ys : List MapEntry}, cutEs l n zt es fs = true → Ent c.ν Γ fs ys → Ent c'.ν Γ' es ys
  | [], fs, ys, h, he => by
    have h' : isNil fs = true := h
    rw [isNil_iff] at h'
    subst h'
    exact he
  | x :: es, [], ys, h, he => by cases h
  | x :: es, y :: fs, ys, h, he => by
    have h' : bi (cutV l n zt x.1 y.1) (bi (cutV l n zt x.2.1 y.2.1) (bi (Nat.beq x.2.2 y.2.2) (cutEs l n zt es fs) false) false) false = true := h
    obtain ⟨h1, h'⟩ := bi_and h'
    obtain ⟨h2, h'⟩ := bi_and h'
    obtain ⟨h3, h4⟩ := bi_and h'
    rw [Nat.beq_eq] at h3
    rw [Ent] at he ⊢
    obtain ⟨e, s, rfl, k1, k2, k3, k4⟩ := he
    exact ⟨e, s, rfl, hV _ _ _ h1 k1, hV _ _ _ h2 k2, by rw [k3, h3], cutEs_ok hV h4 k4⟩
theorem cutB_ok (hV : ∀ a b X, cutV l n zt a b = true → DV c.ν Γ b X → DV c'.ν Γ' a X) {a b : Blk} {g : G} {hp : Array Obj} (h : cutB l n zt a b = true) (hb : BOK c.ν Γ b g hp) : BOK c'.ν Γ' a g hp := by
  unfold cutB at h
  split at h
  · rename_i k t T f q u S f'
    obtain ⟨h1, h⟩ := bi_and h
    obtain ⟨h2, h3⟩ := bi_and h
    rw [Nat.ble_eq] at h1
    rw [eqBo_eq, beq_iff_eq] at h2
    subst h2
    obtain ⟨A, T', fr, k1, k2, k3, k4, k5, k6⟩ := hb
    refine ⟨A, T', fr, k1, k2, Nat.le_trans h1 k3, k4, k5, fun i hi => ?_⟩
    obtain ⟨y, y1, y2, y3⟩ := k6 i (Nat.lt_of_lt_of_le hi h1)
    exact ⟨y, y1, y2, hV _ _ _ (cutCs_spec h3 i hi) y3⟩
  · rename_i es cl fs d
    obtain ⟨h1, h2⟩ := bi_and h
    rw [Nat.beq_eq] at h1
    subst h1
    obtain ⟨ys, k1, k2⟩ := hb
    exact ⟨ys, k1, cutEs_ok hV h2 k2⟩
  · cases h
theorem cutB_own {a b : Blk} (h : cutB l n zt a b = true) : ownB b := by
  unfold cutB at h
  split at h
  · exact ⟨by simp, by simp⟩
  · exact ⟨by simp, by simp⟩
  · cases h
theorem mkM_get (n : Nat) : ∀ (bs : List (Nat × Blk)) (k : Nat), (mkM n bs).get k = .dead ∨ ∃ b, (k, b) ∈ bs ∧ (mkM n bs).get k = b
  | [], k => .inl (by show g5 .dead k nil5 = .dead; rw [g5_f]; exact (mapl5 Blk.dead).zz k)
  | x :: bs, k => by
    have e : mkM n (x :: bs) = (mkM n bs).put x.1 x.2 := rfl
    rw [e]
    rcases M.get_put (mkM n bs) x.1 k x.2 with ⟨h1, h2⟩ | ⟨rfl, h1 | h1⟩
    · rw [h1]
      rcases mkM_get n bs k with h | ⟨b, hb, h⟩
      · exact .inl h
      · exact .inr ⟨b, List.mem_cons_of_mem _ hb, h⟩
    · exact .inr ⟨x.2, List.mem_cons_self .., h1⟩
    · exact .inl h1
theorem mkM_n (n : Nat) : ∀ (bs : List (Nat × Blk)), (mkM n bs).n = n
  | [] => rfl
  | x :: bs => mkM_n n bs
theorem mkE_get : ∀ (ts : List (Nat × V)) (k : Nat), gE k (mkE ts) = .any ∨ ∃ v, (k, v) ∈ ts ∧ gE k (mkE ts) = v
  | [], k => .inl (gE_en0 k)
  | x :: ts, k => by
    have e : mkE (x :: ts) = uE x.1 x.2 (mkE ts) := rfl
    rw [e]
    by_cases hk : k = x.1
    · subst hk
      rcases gE_same x.1 x.2 (mkE ts) with h | h
      · exact .inr ⟨x.2, List.mem_cons_self .., h⟩
      · exact .inl h
    · rw [gE_ne hk]
      rcases mkE_get ts k with h | ⟨v, hv, h⟩
      · exact .inl h
      · exact .inr ⟨v, List.mem_cons_of_mem _ hv, h⟩
end
/-- The outside of a stage. -/
noncomputable def ctxC (N : Nm) (W : World) (r : Nat → Blk) : Ctx := { ν := N.ν W, nu := N.ok W, w0 := W, pr := fun q => W.heap[q]?, r0 := r }
theorem Nm.gl (N : Nm) {W : World} {g : Nat} {A : Array Value} {T : TypeId} {fr : Nat × Nat} {y : Value} (hg : g < 2) (h1 : W.heap[g]? = some (.cells A T fr)) (h2 : A[0]? = some y) : N.ν W (1000 + g) y := by
  unfold Nm.ν nuOf
  iterate 9 right
  exact ⟨by omega, .inl ⟨g, A, T, fr, hg, rfl, h1, h2⟩⟩
theorem Nm.n100 (N : Nm) (W : World) : N.ν W 100 (.int .i64 N.z0) := .inl ⟨rfl, rfl⟩
theorem Nm.n110 (N : Nm) (W : World) {x : Value} (h : SlZ N.z0 x) : N.ν W 110 x := by
  unfold Nm.ν nuOf
  iterate 3 right
  exact .inl ⟨rfl, h⟩
theorem Nm.mu (N : Nm) (W : World) {i : Nat} {x : Value} (hi : 2000 ≤ i) : N.ν W i x ↔ N.μ i x := by
  constructor
  · intro h
    unfold Nm.ν nuOf at h
    rcases h with h | h | h | h | h | h | h | h | h | ⟨_, ⟨g, A, T, fr, h, h2, _⟩ | h⟩
    all_goals first | exact h | (exfalso; omega)
  · intro h
    unfold Nm.ν nuOf
    iterate 9 right
    exact ⟨by omega, .inr h⟩
/-- The lesser memory is true of the same world. -/
theorem cut_rel {N : Nm} {W : World} {r : Nat → Blk} {Γ : Gm} {m : M} {w : World} {l : List Nat} {n : Nat} {zt : V} {bs : List (Nat × Blk)} (h6 : Start W) (hR : Rel (ctxC N W r) Γ m w) (h : cutAll l n zt bs m = true) :
    ∃ (Γ' : Gm) (z : Nat), z ≤ 60 ∧ ∀ N' : Nm, N'.z0 = z → Rel (ctxC N' W (mkM n bs).get) Γ' (mkM n bs) w ∧ ∀ a b X, cutV l n zt a b = true → DV (N.ν W) Γ b X → DV (N'.ν W) Γ' a X := by
  obtain ⟨h1, h⟩ := bi_and h
  obtain ⟨h2, h⟩ := bi_and h
  obtain ⟨h3, h4⟩ := bi_and h
  rw [Nat.beq_eq, len_eq] at h2
  have h2 : 6 + l.length = n := h2
  obtain ⟨z, hz, hz1, hz2⟩ := zt_ok (c := ctxC N W r) (Γ := Γ) h1
  refine ⟨fun k => if k < n then Γ (sg l k) else none, z, hz, fun N' hN' => ?_⟩
  have hΓ : ∀ k g, k < n → Γ (sg l k) = some g → (fun k => if k < n then Γ (sg l k) else none) k = some g := fun k g hk hg => by
    show (if k < n then _ else _) = _
    rw [if_pos hk]
    exact hg
  have hV : ∀ a b X, cutV l n zt a b = true → DV (ctxC N W r).ν Γ b X → DV (ctxC N' W (mkM n bs).get).ν (fun k => if k < n then Γ (sg l k) else none) a X := fun a b X hab hb => by
    refine cutV_ok (c := ctxC N W r) (c' := ctxC N' W (mkM n bs).get) hΓ (fun X hX => ?_) (fun b X hb hX => ?_) hab hb
    · rw [hz1 X hX, ← hN']
      exact ⟨N'.n100 W, rfl⟩
    · have hs : SlZ N'.z0 X := by rw [hN']; exact hz2 b X hb hX
      refine ⟨N'.n110 W hs, ?_⟩
      obtain ⟨a, p, _, rfl⟩ := hs
      rfl
  have hsg : ∀ k, k < 6 → sg l k = k := fun k hk => by
    unfold sg
    rw [show Nat.blt k 6 = true from by rw [Nat.blt_eq]; exact hk, bi_t]
  have key : ∀ k, (mkM n bs).get k ≠ .dead → 6 ≤ k ∧ k < n ∧ cutB l n zt ((mkM n bs).get k) (m.get (sg l k)) = true := fun k hk => by
    rcases mkM_get n bs k with hd | ⟨b, hb, he⟩
    · exact absurd hd hk
    · have h5 := allB_spec h4 _ hb
      obtain ⟨h5, h6⟩ := bi_and h5
      obtain ⟨h6, h7⟩ := bi_and h6
      rw [Nat.ble_eq] at h5
      rw [Nat.blt_eq] at h6
      rw [he]
      exact ⟨h5, h6, h7⟩
  refine ⟨⟨hR.os, hR.tape, hR.output, fun k g hk => ?_, fun k hk => ?_, fun k hk => ?_, fun j k gj gk hjk hj hk hjo hkd => ?_, fun b o hb => ?_, fun k _ => rfl, fun g hg => ?_⟩, hV⟩
  · rw [mkM_n]
    have hk : (if k < n then Γ (sg l k) else none) = some g := hk
    by_cases hkn : k < n
    · rw [if_pos hkn] at hk
      exact ⟨hkn, (hR.dom _ _ hk).2⟩
    · rw [if_neg hkn] at hk; cases hk
  · obtain ⟨q, hq⟩ := hR.glob k hk
    exact ⟨q, hΓ k _ (by omega) (by rw [hsg k hk]; exact hq)⟩
  · obtain ⟨k1, k2, k3⟩ := key k hk
    obtain ⟨g, hg, hB⟩ := hR.hold (sg l k) (cutB_own k3).1
    exact ⟨g, hΓ k g k2 hg, cutB_ok (c := ctxC N W r) (c' := ctxC N' W (mkM n bs).get) hV k3 hB⟩
  · obtain ⟨j1, j2, j3⟩ := key j hjo.1
    obtain ⟨k1, k2, k3⟩ := key k hkd
    have hj : (if j < n then Γ (sg l j) else none) = some gj := hj
    have hk : (if k < n then Γ (sg l k) else none) = some gk := hk
    rw [if_pos j2] at hj
    rw [if_pos k2] at hk
    refine hR.dis (sg l j) (sg l k) gj gk (fun he => hjk (sg_inj h3 j1 k1 (by omega) (by omega) he)) hj hk (cutB_own j3) (cutB_own k3).1
  · obtain ⟨p1, p2⟩ := hR.prot b o hb
    refine ⟨p1, fun k g hk hkd => ?_⟩
    obtain ⟨k1, k2, k3⟩ := key k hkd
    have hk : (if k < n then Γ (sg l k) else none) = some g := hk
    rw [if_pos k2] at hk
    exact p2 _ _ hk (cutB_own k3).1
  · obtain ⟨A, T, fr, y, y1, y2, y3⟩ := h6.vars g hg
    exact ⟨A, T, fr, y, y1, y2, y3, N'.gl hg y1 y2⟩
theorem cut_env {c c' : Ctx} {Γ Γ' : Gm} {e : En} {a : Act} {sz : Nat} {ts : List (Nat × V)} (hE : HasE c.ν Γ sz e [] a) (ht : ∀ x ∈ ts, DV c'.ν Γ' x.2 (a.tmps.getD x.1 undef)) : HasE c'.ν Γ' sz (mkE ts) [] a := by
  refine ⟨hE.size, fun t => ?_, ?_⟩
  · rcases mkE_get ts t with h | ⟨v, hv, h⟩
    · rw [h, DV]; trivial
    · rw [h]; exact ht _ hv
  · obtain ⟨l, h1, h2⟩ := hE.defers
    refine ⟨l, h1, ?_⟩
    cases l with
    | nil => trivial
    | cons x l => cases h2
end Go.Proofs.YtiekoeapmhhjbaaGreatDoor.X
