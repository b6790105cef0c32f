/- The interpreter is sound: the program's own facts; a law's run. -/
import Derived.KernelRfl
import Derived.Laws.Externs
import Derived.Lib.Bytealg
import Derived.Lib.Overlaps
import Derived.Test.YtiekoeapmhhjbaaGreatDoorMG
/- The interpreter is sound, part QK: functions without a body. -/
namespace Go.Proofs.YtiekoeapmhhjbaaGreatDoor.X
open Go Go.RowKit
set_option linter.unusedVariables false
set_option linter.unusedSimpArgs false
variable {c : Ctx} {Γ Γ' : Gm} {m m' : M} {w w' : World} {Q : Program}
theorem clone_ok (hR : Rel c Γ m w) {t : TypeId} {r : Nat} {x : Value} (hx : DV c.ν Γ (.iface t (.map r)) x) {v : V} (h : xClone m t r = some (v, m')) : VOut c Γ v m' w (Extern.MapsClone.clone #[x]) Q := by
  obtain ⟨y, hy, rfl⟩ := dv_iface hx
  obtain ⟨g, hg, rfl⟩ := dv_map hy
  unfold xClone at h
  cases hb : m.get r <;> rw [hb] at h <;> first | (cases h; done) | skip
  rename_i es cl
  have h : allo m (.map es cl) (fun k m => one (.iface t (.map k)) m) = some (v, m') := h
  rw [allo_eq] at h
  cases h
  have hk := hR.at hg (by rw [hb]; simp)
  rw [hb] at hk
  obtain ⟨ys, h1, h2⟩ := hk
  have hR' : Rel c (addG Γ m.n ⟨w.heap.size, 0, 0⟩) (m.add (.map es cl)) (w.alloc (.map ys cl)) := hR.alloc (o := .map ys cl) (N := 0) rfl rfl rfl rfl ⟨ys, World.alloc_heap_new w _, h2.mono (LeG.add hR.fresh _)⟩
  refine ⟨.iface t (.map (some w.heap.size)), _, _, LeG.add hR.fresh _, hR', ?_, ?_⟩
  · rw [DV]
    refine ⟨_, ?_, rfl⟩
    rw [DV]
    exact ⟨_, addG_same _ _ _, rfl⟩
  · have e1 : Extern.MapsClone.clone #[.iface t (.map (some g.blk))] = (do
      let .map entries clock ← getObj g.blk | stuck "maps.clone: a map expected"
      pure (.iface t (.map (some (← newObj (.map entries clock)))))) := rfl
    rw [e1, Sem.run_bind]
    have e2 : (getObj g.blk).run Q w = .ok (.map ys cl) w := by simp [getObj, Sem.run, h1]
    rw [e2]
    simp [run_newObj_alloc]
theorem cb_less : ∀ (a b : List UInt8), Lib.compareBytes a b = if Op.bytesLess a b then -1 else if Op.bytesLess b a then 1 else 0
  | [], [] => rfl
  | [], _ :: _ => rfl
  | _ :: _, [] => rfl
  | x :: a, y :: b => by
    have h := cb_less a b
    simp only [Lib.compareBytes, Op.bytesLess]
    by_cases h1 : x < y
    · simp [h1]
    · by_cases h2 : y < x
      · have hne : ¬ (x == y) = true := by
          intro he
          have : x = y := by simpa using he
          subst this
          exact h1 h2
        simp [h1, h2, hne]
      · have he : x = y := by
          have h3 := UInt8.not_lt.1 h1
          have h4 := UInt8.not_lt.1 h2
          exact UInt8.le_antisymm h4 h3
        subst he
        simp [h1, h]
theorem cmpS_ok {a b : List Nat} {x y : Value} {v : V} (hx : DV c.ν Γ (.str a) x) (hy : DV c.ν Γ (.str b) y) (h : bi (ltL a b) (one (.int .i64 18446744073709551615) m) (bi (ltL b a) (one (intV 1) m) (one (intV 0) m)) = some (v, m')) :
    m' = m ∧ ∃ z, DV c.ν Γ v z ∧ (Extern.BytealgCompare.compare #[x, y]).run Q w = .ok z w := by
  rw [dv_str hx, dv_str hy, Lib.run_compareString, cb_less]
  have e1 : Op.bytesLess (strB a).data.toList (strB b).data.toList = ltL a b := by
    rw [ltL_iff]
    rfl
  have e2 : Op.bytesLess (strB b).data.toList (strB a).data.toList = ltL b a := by
    rw [ltL_iff]
    rfl
  rw [e1, e2]
  cases h1 : ltL a b with
  | true =>
    rw [h1] at h
    cases h
    exact ⟨rfl, _, mk_int rfl, rfl⟩
  | false =>
    rw [h1] at h
    have h : bi (ltL b a) (one (intV 1) m) (one (intV 0) m) = some (v, m') := h
    cases h2 : ltL b a with
    | true =>
      rw [h2] at h
      cases h
      exact ⟨rfl, _, by rw [intV_eq]; exact mk_int rfl, rfl⟩
    | false =>
      rw [h2] at h
      cases h
      exact ⟨rfl, _, by rw [intV_eq]; exact mk_int rfl, rfl⟩
/-- What a slice is, to slices.overlaps. -/
theorem slK_ok {x : V} {X : Value} (hx : DV c.ν Γ x X) {p : Option (Nat × Nat × Nat)} (h : slK x = some p) : (∃ b o l g q, p = some (b, o, l) ∧ Γ b = some g ∧ X = .slice (some ⟨g.blk, g.sh + o, none⟩) l q) ∨ (p = none ∧ ∃ A q, X = .slice A 0 q) := by
  cases x <;> first | (cases h; done) | skip
  · cases h
    obtain ⟨g, q, hg, _, rfl⟩ := dv_slice hx
    exact .inl ⟨_, _, _, g, q, rfl, hg, rfl⟩
  · cases h
    rw [dv_nilS hx]
    exact .inr ⟨rfl, none, 0, rfl⟩
  · cases h
    obtain ⟨a, q, _, rfl⟩ := dv_emp hx
    exact .inr ⟨rfl, some a, q, rfl⟩
theorem run_over (params results : Array TypeId) {t el : TypeId} {z : Nat} (hp : params[0]? = some t) (hu : Q.underlying t = some (.slice el)) (hz : (Q.info? el).map (·.size) = some z) (A B : Option Addr) (la ca lb cb : Nat) (w : World) :
    (Extern.SlicesOverlaps.overlaps params results #[.slice A la ca, .slice B lb cb]).run Q w = (match A, B with
    | some a, some b =>
      if la = 0 ∨ lb = 0 ∨ z = 0 then pure (Value.bool false)
      else do
      if a.block != b.block && (← frozen a) && (← frozen b) then unsupported .addressObserved
      else do
        if a.block != b.block then do
          noView a; noView b
          if ← mayBeOne a b then return Value.bool ((← choose (.extern "sameAddr.stringBytes" 2)) == 1)
        pure (Value.bool (a.block == b.block && a.off < b.off + lb * z && b.off < a.off + la * z))
    | _, _ => pure (Value.bool false) : Sem Value).run Q w := by
  have e1 : Extern.SlicesOverlaps.overlaps params results #[.slice A la ca, .slice B lb cb] = (do
    let some t := params[0]? | stuck "slices.overlaps: no parameter types"
    let .slice elem ← underlying t | stuck "slices.overlaps: slice type expected"
    let size ← sizeOf elem
    match A, B with
    | some a, some b =>
      if la = 0 ∨ lb = 0 ∨ size = 0 then pure (Value.bool false)
      else if a.block != b.block && (← frozen a) && (← frozen b) then unsupported .addressObserved
      else do
        if a.block != b.block then do
          noView a; noView b
          if ← mayBeOne a b then return Value.bool ((← choose (.extern "sameAddr.stringBytes" 2)) == 1)
        pure (Value.bool (a.block == b.block && a.off < b.off + lb * size && b.off < a.off + la * size))
    | _, _ => pure (Value.bool false)) := rfl
  rw [e1, hp]
  simp only [Sem.run_bind, run_underlying hu, Result.andThen_ok, Sx.run_sizeOf hz]
theorem over_ok (hR : Rel c Γ m w) {x y : V} {X Y : Value} (hx : DV c.ν Γ x X) (hy : DV c.ν Γ y Y) {t r : TypeId} {v : V} (h : xOver Q m t x y = some (v, m')) : m' = m ∧ ∃ z, DV c.ν Γ v z ∧ (Extern.SlicesOverlaps.overlaps #[t, t] #[r] #[X, Y]).run Q w = .ok z w := by
  unfold xOver at h
  rw [ob_eq] at h
  obtain ⟨⟨el, z⟩, hez, h⟩ := h
  obtain ⟨hu, hz⟩ := elz_eq hez
  dsimp only at hu hz
  rw [ob_eq] at h
  obtain ⟨p, hp, h⟩ := h
  rw [ob_eq] at h
  obtain ⟨q, hq, h⟩ := h
  have none_ : ∀ A B la ca lb cb, X = .slice A la ca → Y = .slice B lb cb → (la = 0 ∨ lb = 0) → (Extern.SlicesOverlaps.overlaps #[t, t] #[r] #[X, Y]).run Q w = .ok (.bool false) w := by
    intro A B la ca lb cb hX hY h0
    rw [hX, hY, run_over #[t, t] #[r] (by simp) hu hz]
    cases A with
    | none => rfl
    | some a =>
      cases B with
      | none => rfl
      | some b =>
        dsimp only
        rw [if_pos (by rcases h0 with h0 | h0; exact .inl h0; exact .inr (.inl h0))]
        rfl
  rcases slK_ok hx hp with ⟨b, o, l, g, cq, rfl, hg, hX⟩ | ⟨rfl, A, cq, hX⟩
  · rcases slK_ok hy hq with ⟨b2, o2, l2, g2, cq2, rfl, hg2, hY⟩ | ⟨rfl, B, cq2, hY⟩
    · dsimp only at h
      cases h1 : Nat.beq l 0 with
      | true =>
        rw [h1] at h
        cases h
        exact ⟨rfl, _, mk_bool, none_ _ _ _ _ _ _ hX hY (.inl (Nat.eq_of_beq_eq_true h1))⟩
      | false =>
        rw [h1] at h
        have h := h
        cases h2 : Nat.beq l2 0 with
        | true =>
          rw [h2] at h
          cases h
          exact ⟨rfl, _, mk_bool, none_ _ _ _ _ _ _ hX hY (.inr (Nat.eq_of_beq_eq_true h2))⟩
        | false =>
          rw [h2] at h
          cases h3 : Nat.beq b b2 with
          | true =>
            rw [h3] at h
            cases h
            have hb := Nat.eq_of_beq_eq_true h3
            subst hb
            rw [hg] at hg2
            cases hg2
            refine ⟨rfl, _, mk_bool, ?_⟩
            rw [hX, hY, run_over #[t, t] #[r] (by simp) hu hz]
            dsimp only
            have hl1 : l ≠ 0 := fun he => by rw [he] at h1; cases h1
            have hl2 : l2 ≠ 0 := fun he => by rw [he] at h2; cases h2
            have hand : ∀ a b : Bool, andB a b = (a && b) := fun a b => by cases a <;> rfl
            by_cases h0 : z = 0
            · rw [if_pos (.inr (.inr h0))]
              subst h0
              have e1 : andB (Nat.blt o (Nat.add o2 (Nat.mul l2 0))) (Nat.blt o2 (Nat.add o (Nat.mul l 0))) = false := by
                rw [hand]
                by_cases hlt : o < o2
                · have : Nat.blt o2 o = false := by
                    cases hb : Nat.blt o2 o with
                    | false => rfl
                    | true => rw [Nat.blt_eq] at hb; omega
                  show (Nat.blt o o2 && Nat.blt o2 o) = false
                  rw [this, Bool.and_false]
                · have : Nat.blt o o2 = false := by
                    cases hb : Nat.blt o o2 with
                    | false => rfl
                    | true => rw [Nat.blt_eq] at hb; omega
                  show (Nat.blt o o2 && Nat.blt o2 o) = false
                  rw [this, Bool.false_and]
              rw [e1]
              rfl
            · rw [if_neg (by simp [hl1, hl2, h0])]
              have e1 : ∀ a b : Nat, Nat.blt a b = decide (a < b) := fun a b => by
                rw [Bool.eq_iff_iff, Nat.blt_eq, decide_eq_true_iff]
              have e2 : (g.sh + o < g.sh + o2 + l2 * z) = (o < o2 + l2 * z) := by simp only [eq_iff_iff]; omega
              have e3 : (g.sh + o2 < g.sh + o + l * z) = (o2 < o + l * z) := by simp only [eq_iff_iff]; omega
              rw [hand, e1, e1]
              simp [frozen, Sem.run, e2, e3]
          | false =>
            rw [h3] at h
            have h : (m.get b).onCells (fun _ _ _ fz => bi fz none ((m.get b2).onCells (fun k _ _ _ => bi (Nat.beq k 0) none (one (.bool false) m)) none)) none = some (v, m') := h
            cases hb : m.get b <;> rw [hb] at h <;> first | (cases h; done) | skip
            rename_i n1 t1 T1 fz
            have h : bi fz none ((m.get b2).onCells (fun k _ _ _ => bi (Nat.beq k 0) none (one (.bool false) m)) none) = some (v, m') := h
            rw [bi_eq'] at h
            obtain ⟨hfz, h⟩ := h
            cases hb2 : m.get b2 <;> rw [hb2] at h <;> first | (cases h; done) | skip
            rename_i n2 t2 T2 fz2
            have h : bi (Nat.beq n2 0) none (one (.bool false) m) = some (v, m') := h
            rw [bi_eq'] at h
            obtain ⟨hn2, h⟩ := h
            cases h
            refine ⟨rfl, _, mk_bool, ?_⟩
            have hk1 := hR.at hg (by rw [hb]; simp)
            rw [hb] at hk1
            obtain ⟨A1, T1', fr1, a1, a2, a3, a4, a5, a6⟩ := hk1
            have hk2 := hR.at hg2 (by rw [hb2]; simp)
            rw [hb2] at hk2
            obtain ⟨A2, T2', fr2, b1, b2', b3, b4, b5, b6⟩ := hk2
            have hfr := a4 hfz
            subst hfr
            have hne : g.blk ≠ g2.blk := hR.dis b b2 g g2 (fun he => by rw [he, Nat.beq_refl] at h3; cases h3) hg hg2 (by rw [hb]; exact ownB_cells) (by rw [hb2]; simp)
            have hn2' : n2 ≠ 0 := fun he => by rw [he] at hn2; cases hn2
            rw [hX, hY]
            refine Lib.run_overlaps_apart w t r el hu z (Sx.run_sizeOf hz) _ _ _ _ _ _ hne T1' T2' A1.size A2.size ?_ ?_ (by omega) ?_ ?_
            · simp [World.shape?, a1]
            · simp [World.shape?, b1]
            · simp [World.frozen?, a1]
            · simp [World.frozen?, a1]
    · cases h
      exact ⟨rfl, _, mk_bool, none_ _ _ _ _ _ _ hX hY (.inr rfl)⟩
  · cases h
    have hYs : ∃ B lb cb, Y = .slice B lb cb := by
      rcases slK_ok hy hq with ⟨b2, o2, l2, g2, cq2, rfl, hg2, hY⟩ | ⟨rfl, B, cq2, hY⟩
      · exact ⟨_, _, _, hY⟩
      · exact ⟨_, _, _, hY⟩
    obtain ⟨B, lb, cb, hY⟩ := hYs
    exact ⟨rfl, _, mk_bool, none_ _ _ _ _ _ _ hX hY (.inl rfl)⟩
end Go.Proofs.YtiekoeapmhhjbaaGreatDoor.X
/- The interpreter is sound, part QL: the program's own facts. -/
namespace Go.Proofs.YtiekoeapmhhjbaaGreatDoor.X
open Go Go.RowKit
set_option linter.unusedVariables false
set_option linter.unusedSimpArgs false
set_option maxRecDepth 100000
theorem mixed_ok : P.follows .mixedOrders = true := by kernel_rfl
noncomputable def nameB (fn : Func) : Bool := fn.body.isNone || !(fn.name == "runtime.NumGoroutine")
theorem names_all : (P.funcs.toList.all nameB) = true := by kernel_rfl
theorem nameOK : NameOK := by
  intro f fn hf hb hn
  have h := names_all
  rw [List.all_eq_true] at h
  have h2 := h fn (List.mem_of_getElem? (by rw [Array.getElem?_toList]; exact hf))
  unfold nameB at h2
  rw [hb, hn] at h2
  simp at h2
theorem fn97 : P.funcs[97]? = some Tryz.f97 := by kernel_rfl
theorem fn298 : P.funcs[298]? = some Tryz.f298 := by kernel_rfl
theorem fn230 : P.funcs[230]? = some Tryz.f230 := by kernel_rfl
theorem fn275 : P.funcs[275]? = some Tryz.f275 := by kernel_rfl
theorem fn280 : P.funcs[280]? = some Tryz.f280 := by kernel_rfl
theorem exK_cases {f : Nat} {k : XK} (h : exK f = some k) : (f = 97 ∧ k = .clone) ∨ (f = 298 ∧ k = .cmp) ∨ ((f = 230 ∨ f = 275 ∨ f = 280) ∧ k = .overlaps) := by
  unfold exK at h
  cases h1 : Nat.beq f 97 with
  | true => rw [h1] at h; cases h; exact .inl ⟨Nat.eq_of_beq_eq_true h1, rfl⟩
  | false =>
    rw [h1] at h
    have h : bi (Nat.beq f 298) (some XK.cmp) (bi (bi (Nat.beq f 230) true (bi (Nat.beq f 275) true (Nat.beq f 280))) (some .overlaps) none) = some k := h
    cases h2 : Nat.beq f 298 with
    | true => rw [h2] at h; cases h; exact .inr (.inl ⟨Nat.eq_of_beq_eq_true h2, rfl⟩)
    | false =>
      rw [h2] at h
      have h : bi (bi (Nat.beq f 230) true (bi (Nat.beq f 275) true (Nat.beq f 280))) (some XK.overlaps) none = some k := h
      rw [bi_eq] at h
      obtain ⟨h3, h4⟩ := h
      cases h4
      refine .inr (.inr ⟨?_, rfl⟩)
      cases h5 : Nat.beq f 230 with
      | true => exact .inl (Nat.eq_of_beq_eq_true h5)
      | false =>
        rw [h5] at h3
        cases h6 : Nat.beq f 275 with
        | true => exact .inr (.inl (Nat.eq_of_beq_eq_true h6))
        | false =>
          rw [h6] at h3
          exact .inr (.inr (Nat.eq_of_beq_eq_true h3))
variable {c : Ctx} {Γ Γ' : Gm} {m m' : M} {w w' : World}
theorem ext_run {f : FuncId} {fn : Func} {g : Array Value → Sem Value} (hf : P.funcs[f]? = some fn) (hn : (fn.name == "runtime.NumGoroutine") = false) (hb : fn.body = none) (h1 : Extern.findNext fn = none) (h2 : Extern.find fn = some g) {args : List Value} {y : Value} (hr : (g args.toArray).run P w = .ok y w') :
    (callFunc f args.toArray).run P w = .ok (.value y) w' := by
  rw [run_callFunc_extern hf hn (by rw [hb]; rfl) h1 h2, hr]
  rfl
noncomputable def extK (fn : Func) (m : M) (k : XK) (vs : List V) : R1 := match k, vs with
  | .clone, [.iface t (.map r)] => xClone m t r
  | .cmp, [.str a, .str b] => bi (ltL a b) (one (.int .i64 18446744073709551615) m) (bi (ltL b a) (one (intV 1) m) (one (intV 0) m))
  | .overlaps, [x, y] => ob (headO fn.params.toList) fun t => xOver P m t x y
  | _, _ => none
theorem extern_eq {fn : Func} {f : FuncId} {vs : List V} {k : XK} (hk : exK f = some k) : extern fn f m vs = extK fn m k vs := by
  have e1 : extern fn f m vs = ob (exK f) fun k => extK fn m k vs := by kernel_rfl
  rw [e1, hk]
  rfl
theorem over_fn {f : FuncId} {fn : Func} {t r : TypeId} (hfn : P.funcs[f]? = some fn) (hp : fn.params = #[t, t]) (hn : (fn.name == "runtime.NumGoroutine") = false) (hb : fn.body = none) (h1 : Extern.findNext fn = none) (h2 : Extern.find fn = some (Extern.SlicesOverlaps.overlaps #[t, t] #[r])) {vs : List V} {args : List Value} {v : V} (hR : Rel c Γ m w) (hv : DVL c.ν Γ vs args)
    (h : extK fn m .overlaps vs = some (v, m')) : ∃ y Γ' w', LeG Γ Γ' ∧ Rel c Γ' m' w' ∧ DV c.ν Γ' v y ∧ (callFunc f args.toArray).run P w = .ok (.value y) w' := by
  match vs, h with
  | [x, y], h =>
    have h : ob (headO fn.params.toList) (fun t => xOver P m t x y) = some (v, m') := h
    rw [hp] at h
    have h : xOver P m t x y = some (v, m') := h
    obtain ⟨X, Y, rfl, hX, hY⟩ := dvl2 hv
    obtain ⟨rfl, z, hz, hr⟩ := over_ok (Q := P) (r := r) hR hX hY h
    exact ⟨z, Γ, w, LeG.refl _, hR, hz, ext_run hfn hn hb h1 h2 hr⟩
  | [], h => cases h
  | [_], h => cases h
  | _ :: _ :: _ :: _, h => cases h
theorem extOK : ExtOK := by
  intro c f fn m vs v m' Γ w args hf hb hR hv h
  have h' := h
  unfold extern at h'
  rw [ob_eq] at h'
  obtain ⟨k, hk, _⟩ := h'
  rw [extern_eq hk] at h
  rcases exK_cases hk with ⟨rfl, rfl⟩ | ⟨rfl, rfl⟩ | ⟨hff, rfl⟩
  · rw [fn97] at hf
    cases hf
    match vs, h with
    | [.iface t (.map r)], h =>
      have h : xClone m t r = some (v, m') := h
      obtain ⟨X, rfl, hX⟩ := dvl1 hv
      obtain ⟨z, w', Γ', hl, hR', hz, hr⟩ := clone_ok (Q := P) hR hX h
      exact ⟨z, Γ', w', hl, hR', hz, ext_run fn97 (by kernel_rfl) (by kernel_rfl) (by kernel_rfl) (g := Extern.MapsClone.clone) (by kernel_rfl) hr⟩
  · rw [fn298] at hf
    cases hf
    match vs, h with
    | [.str a, .str b], h =>
      have h : bi (ltL a b) (one (.int .i64 18446744073709551615) m) (bi (ltL b a) (one (intV 1) m) (one (intV 0) m)) = some (v, m') := h
      obtain ⟨X, Y, rfl, hX, hY⟩ := dvl2 hv
      obtain ⟨rfl, z, hz, hr⟩ := cmpS_ok (Q := P) (w := w) hX hY h
      exact ⟨z, Γ, w, LeG.refl _, hR, hz, ext_run fn298 (by kernel_rfl) (by kernel_rfl) (by kernel_rfl) (g := Extern.BytealgCompare.compare) (by kernel_rfl) hr⟩
  · rcases hff with rfl | rfl | rfl
    · rw [fn230] at hf
      cases hf
      exact over_fn fn230 (t := 272) (r := 4) (by kernel_rfl) (by kernel_rfl) (by kernel_rfl) (by kernel_rfl) (by kernel_rfl) hR hv h
    · rw [fn275] at hf
      cases hf
      exact over_fn fn275 (t := 279) (r := 4) (by kernel_rfl) (by kernel_rfl) (by kernel_rfl) (by kernel_rfl) (by kernel_rfl) hR hv h
    · rw [fn280] at hf
      cases hf
      exact over_fn fn280 (t := 75) (r := 4) (by kernel_rfl) (by kernel_rfl) (by kernel_rfl) (by kernel_rfl) (by kernel_rfl) hR hv h
end Go.Proofs.YtiekoeapmhhjbaaGreatDoor.X
/- The interpreter is sound, part QM: structs that are compared; what is known of the calls that have names; the whole. -/
namespace Go.Proofs.YtiekoeapmhhjbaaGreatDoor.X
open Go Go.RowKit
set_option linter.unusedVariables false
set_option linter.unusedSimpArgs false
set_option maxRecDepth 100000
set_option maxHeartbeats 0
noncomputable def stB (Q : Program) : Nat → TypeId → Bool
  | 0, _ => false
  | n + 1, t => match Q.underlying t with
    | some (.struct fs) => !Q.stoodInHeld t && fs.toList.all fun f => !(f.name == "_") && stB Q n f.type
    | _ => match (Q.info? t).map (·.size) with
      | some k => Nat.beq k 1
      | none => false
theorem stB_spec (Q : Program) : ∀ (n : Nat) (t : TypeId), stB Q n t = true → StOK Q n t
  | 0, t, h => by cases h
  | n + 1, t, h => by
    unfold stB at h
    unfold StOK
    have leaf : (match (Q.info? t).map (·.size) with
      | some k => Nat.beq k 1
      | none => false) = true → (Q.info? t).map (·.size) = some 1 := fun h => by
      cases hi : (Q.info? t).map (·.size) with
      | none => rw [hi] at h; cases h
      | some k => rw [hi] at h; rw [Nat.eq_of_beq_eq_true h]
    cases hu : Q.underlying t with
    | none => rw [hu] at h; exact leaf h
    | some d =>
      rw [hu] at h
      cases d
      case struct fs =>
        simp only [Bool.and_eq_true, Bool.not_eq_true', List.all_eq_true] at h
        refine ⟨h.1, fun f hf => ?_⟩
        have := h.2 f hf
        exact ⟨by simpa using this.1, stB_spec Q n f.type this.2⟩
      all_goals exact leaf h
theorem eqTs_ok : EqTs P := by
  intro t ht
  have h : t = 45 ∨ t = 47 ∨ t = 123 := by
    have h' : bi (Nat.beq t 45) true (bi (Nat.beq t 47) true (bi (Nat.beq t 123) true false)) = true := ht
    cases h1 : Nat.beq t 45 with
    | true => exact .inl (Nat.eq_of_beq_eq_true h1)
    | false =>
      rw [h1] at h'
      cases h2 : Nat.beq t 47 with
      | true => exact .inr (.inl (Nat.eq_of_beq_eq_true h2))
      | false =>
        rw [h2] at h'
        cases h3 : Nat.beq t 123 with
        | true => exact .inr (.inr (Nat.eq_of_beq_eq_true h3))
        | false => rw [h3] at h'; cases h'
  rcases h with rfl | rfl | rfl
  · exact ⟨stB_spec P 3 45 (by kernel_rfl), by kernel_rfl⟩
  · exact ⟨stB_spec P 3 47 (by kernel_rfl), by kernel_rfl⟩
  · exact ⟨stB_spec P 3 123 (by kernel_rfl), by kernel_rfl⟩
theorem facts : Facts := ⟨eqTs_ok, extOK, nameOK, mixed_ok⟩
/-! ### a call that looks at no memory -/
noncomputable def hk0 : Hk := fun _ => none
theorem hk0_ok : HkOK hk0 := fun f g h => by cases h
noncomputable def nil5 : T5 Blk := al8 (al8 (al8 (al8 (al8 .dead))))
noncomputable def nilM : M := ⟨6, nil5, []⟩
theorem nilM_get (k : Nat) : nilM.get k = .dead := by
  show g5 .dead k nil5 = .dead
  rw [g5_f]
  exact (mapl5 Blk.dead).zz k
variable {c : Ctx} {Γ Γ' : Gm} {m m' : M} {w w' : World}
theorem nilM_rel (hR : Rel c Γ m w) : Rel { c with pr := fun q => w.heap[q]?, r0 := fun _ => .dead } (fun k => if k < 6 then Γ k else none) nilM w where
  os := hR.os
  tape := hR.tape
  output := hR.output
  dom := fun k g hk => by
    by_cases h6 : k < 6
    · rw [if_pos h6] at hk
      exact ⟨h6, (hR.dom k g hk).2⟩
    · rw [if_neg h6] at hk; cases hk
  glob := fun k hk => by
    rw [if_pos hk]
    exact hR.glob k hk
  hold := fun k hk => absurd (nilM_get k) hk
  dis := fun j k gj gk hjk hj hk hjo hkd => absurd (nilM_get k) hkd
  prot := fun b o hb => ⟨hb, fun k g hk hkd => absurd (nilM_get k) hkd⟩
  lg := fun k _ => nilM_get k
theorem back_rel {m0 : M} {Γ0 : Gm} (hR : Rel c Γ m w) (h : Rel { c with pr := fun q => w.heap[q]?, r0 := fun _ => .dead } Γ0 m0 w') : Rel c Γ m w' := by
  refine hR.idle (h.os.trans hR.os.symm) (h.tape.trans hR.tape.symm) (h.output.trans hR.output.symm) ?_ (fun j hj => ?_)
  · refine Nat.le_of_not_lt fun hlt => ?_
    have h1 := (h.prot w'.heap.size _ (Array.getElem?_eq_getElem hlt)).1
    have := (Array.getElem?_eq_some_iff.1 h1).1
    omega
  · rw [Array.getElem?_eq_getElem hj]
    exact (h.prot j _ (Array.getElem?_eq_getElem hj)).1
/-- What is known of a value wherever it lies. -/
def Closed (v : V) : Prop := ∀ (ν : Nat → Value → Prop) (Γ Γ' : Gm) (x : Value), DV ν Γ v x → DV ν Γ' v x
theorem pure_call (f : FuncId) (vs : List V) (v0 : V) (hv0 : Closed v0) (n : Nat) (hrun : Yes (call hk0 n nilM f vs (fun v m => bi (eqV 4 v v0) (yesA m) none))) {args : List Value} {K : Kt} (hR : Rel c Γ m w) (hv : DVL c.ν (fun k => if k < 6 then Γ k else none) vs args) (hK : Yes (K v0 m)) : CallOK c Γ K f args w := by
  have key : ∀ v y m' Γ' w', Rel { c with pr := fun q => w.heap[q]?, r0 := fun _ => .dead } Γ' m' w' → DV c.ν Γ' v y → Yes (bi (eqV 4 v v0) (yesA m') none) → Rel c Γ m w' ∧ DV c.ν Γ v0 y := fun v y m' Γ' w' h1 h2 h3 => by
    obtain ⟨h4, _⟩ := yes_bi h3
    rw [eqV_eq 4 h4] at h2
    exact ⟨back_rel hR h1, hv0 _ _ _ _ h2⟩
  obtain ⟨fn, hf, ⟨hb, hC⟩ | ⟨hb, v, y, m', Γ', w', hl, hR', hy', hk, hr⟩⟩ := call_ok (c := { c with pr := fun q => w.heap[q]?, r0 := fun _ => .dead }) facts (drawOK facts) hk0_ok n (nilM_rel hR) hv hrun
  · refine ⟨fn, hf, .inl ⟨hb, hC.mono fun x w' hE => ?_⟩⟩
    obtain ⟨v, y, m', Γ', rfl, hl, hR', hy', hk⟩ := hE
    obtain ⟨k1, k2⟩ := key v y m' Γ' w' hR' hy' hk
    exact ⟨v0, y, m, Γ, rfl, LeG.refl _, k1, k2, hK⟩
  · obtain ⟨k1, k2⟩ := key v y m' Γ' w' hR' hy' hk
    exact ⟨fn, hf, .inr ⟨hb, v0, y, m, Γ, w', LeG.refl _, k1, k2, hK, hr⟩⟩
theorem ints_closed {ν : Nat → Value → Prop} : ∀ {l : List Nat} {ys : List Value}, DVL ν Γ (mapL (fun n => V.int .u32 n) l) ys → DVL ν Γ' (mapL (fun n => V.int .u32 n) l) ys
  | [], ys, h => by
    have h : DVL ν Γ [] ys := h
    rw [DVL] at h
    subst h
    exact DVL.nil
  | n :: l, ys, h => by
    have h : DVL ν Γ (V.int .u32 n :: mapL (fun n => V.int .u32 n) l) ys := h
    rw [DVL] at h
    obtain ⟨y, s, rfl, h1, h2⟩ := h
    exact DVL.cons (by rw [DV] at h1 ⊢; exact h1) (ints_closed h2)
theorem crc_closed : Closed crcV := fun ν Γ Γ' x h => by
  unfold crcV at h ⊢
  rw [DV] at h ⊢
  obtain ⟨ys, h1, h2⟩ := h
  exact ⟨ys, ints_closed h1, h2⟩
noncomputable def okA (a : A) : Bool := Option.rec false (fun _ => true) a
theorem okA_yes {a : A} (h : okA a = true) : Yes a := by
  cases a with
  | none => cases h
  | some r => exact ⟨r, rfl⟩
theorem crc_run : okA (call hk0 1000000 nilM 254 [.int .u32 3988292384] (fun v m => bi (eqV 4 v crcV) (yesA m) none)) = true := by kernel_rfl
theorem prim_ok (X : Ex) : SndFn 254 (primOf X) := by
  intro c m vs K Γ w args hR hv hy
  cases vs with
  | nil => exact (yes_none hy).elim
  | cons x r =>
    have hy : Yes (x.onInt (fun k p => bi (Nat.beq (kn k) 6) (bi (isNil r) (bi (Nat.beq p 3988292384) (K crcV m) none) none) none) none) := hy
    obtain ⟨k, p, rfl, hy⟩ := yes_onInt hy
    obtain ⟨h1, hy⟩ := yes_bi hy
    obtain ⟨h2, hy⟩ := yes_bi hy
    obtain ⟨h3, hy⟩ := yes_bi hy
    have hk : k = .u32 := kn_inj (q := .u32) h1
    rw [isNil_iff] at h2
    have hp := Nat.eq_of_beq_eq_true h3
    subst hk h2 hp
    refine pure_call 254 _ crcV crc_closed 1000000 (okA_yes crc_run) hR ?_ hy
    rw [DVL] at hv
    obtain ⟨y, s, rfl, h4, h5⟩ := hv
    rw [DVL] at h5
    subst h5
    exact DVL.cons (by rw [DV] at h4 ⊢; exact h4) DVL.nil
theorem hooks : HkOK hookF := by
  intro f g h n X hX
  unfold hookF at h
  cases h1 : Nat.beq f 254 with
  | true =>
    rw [h1] at h
    cases h
    have := Nat.eq_of_beq_eq_true h1
    subst this
    exact prim_ok X
  | false =>
    rw [h1] at h
    have h : bi (bi (Nat.beq f 35) true (bi (Nat.beq f 108) true (Nat.beq f 10))) (some (ndRun (cFun f))) none = some g := h
    rw [bi_eq] at h
    obtain ⟨_, h⟩ := h
    cases h
    exact ndRun_ok facts hX f
/-- The interpreter's word is the program's. -/
theorem sound (n : Nat) {f : Nat} {vs : List V} {args : List Value} {K : Kt} (hR : Rel c Γ m w) (hv : DVL c.ν Γ vs args) (hy : Yes (call hookF n m f vs K)) : CallOK c Γ K f args w :=
  call_ok facts (drawOK facts) hooks n hR hv hy
end Go.Proofs.YtiekoeapmhhjbaaGreatDoor.X
/- A law's run: from a world of which nothing is asked but that its variables lie there. -/
namespace Go.Proofs.YtiekoeapmhhjbaaGreatDoor.X
open Go Go.RowKit
set_option linter.unusedVariables false
set_option linter.unusedSimpArgs false
set_option maxRecDepth 100000
set_option maxHeartbeats 0
variable {c : Ctx} {Γ Γ' : Gm} {m m' : M} {w w' : World}
/-- A call whose run makes blocks only. -/
theorem blocks_call {h : Hk} (hh : HkOK h) (f : FuncId) (vs : List V) (v0 : V) (hv0 : Closed v0) (n : Nat) (hrun : Yes (call h n nilM f vs (fun v m => bi (leV v0 v) (yesA m) none))) {args : List Value} {K : Kt} (hR : Rel c Γ m w) (hv : DVL c.ν (fun k => if k < 6 then Γ k else none) vs args) (hK : Yes (K v0 m)) : CallOK c Γ K f args w := by
  have key : ∀ v y m' Γ' w', Rel { c with pr := fun q => w.heap[q]?, r0 := fun _ => .dead } Γ' m' w' → DV c.ν Γ' v y → Yes (bi (leV v0 v) (yesA m') none) → Rel c Γ m w' ∧ DV c.ν Γ v0 y := fun v y m' Γ' w' h1 h2 h3 => by
    obtain ⟨h4, _⟩ := yes_bi h3
    exact ⟨back_rel hR h1, hv0 _ _ _ _ (leV_ok h4 h2)⟩
  obtain ⟨fn, hf, ⟨hb, hC⟩ | ⟨hb, v, y, m', Γ', w', hl, hR', hy', hk, hr⟩⟩ := call_ok (c := { c with pr := fun q => w.heap[q]?, r0 := fun _ => .dead }) facts (drawOK facts) hh n (nilM_rel hR) hv hrun
  · refine ⟨fn, hf, .inl ⟨hb, hC.mono fun x w' hE => ?_⟩⟩
    obtain ⟨v, y, m', Γ', rfl, hl, hR', hy', hk⟩ := hE
    obtain ⟨k1, k2⟩ := key v y m' Γ' w' hR' hy' hk
    exact ⟨v0, y, m, Γ, rfl, LeG.refl _, k1, k2, hK⟩
  · obtain ⟨k1, k2⟩ := key v y m' Γ' w' hR' hy' hk
    exact ⟨fn, hf, .inr ⟨hb, v0, y, m, Γ, w', LeG.refl _, k1, k2, hK, hr⟩⟩
theorem true_closed : Closed (.bool true) := fun ν Γ Γ' x h => by rw [DV] at h ⊢; exact h
/-- Does the call come to true? -/
noncomputable def runB (h : Hk) (f : FuncId) (vs : List V) : Bool := okA (call h 1000000 nilM f vs (fun v m => bi (leV (.bool true) v) (yesA m) none))
theorem awk_ok {f : FuncId} (hrun : runB hookF f [] = true) (X : Ex) : SndFn f (awk X) := by
  intro c m vs K Γ w args hR hv hy
  obtain ⟨h1, hy⟩ := yes_bi hy
  rw [isNil_iff] at h1
  subst h1
  rw [DVL] at hv
  subst hv
  exact blocks_call hooks f [] (.bool true) true_closed 1000000 (okA_yes hrun) hR DVL.nil hy
/-! ### from the start -/
def startC (ν : Nat → Value → Prop) (W : World) : Ctx := { ν, w0 := W, pr := fun q => W.heap[q]?, r0 := fun _ => .dead }
def startG : Gm := fun k => if k < 6 then some ⟨k, 0, 0⟩ else none
theorem start_rel (ν : Nat → Value → Prop) {W : World} (h6 : 6 ≤ W.heap.size) : Rel (startC ν W) startG nilM W where
  os := rfl
  tape := rfl
  output := rfl
  dom := fun k g hk => by
    unfold startG at hk
    by_cases h : k < 6
    · rw [if_pos h] at hk
      cases hk
      exact ⟨h, by show k < _; omega⟩
    · rw [if_neg h] at hk; cases hk
  glob := fun k hk => ⟨0, if_pos hk⟩
  hold := fun k hk => absurd (nilM_get k) hk
  dis := fun j k gj gk hjk hj hk hjo hkd => absurd (nilM_get k) hkd
  prot := fun b o hb => ⟨hb, fun k g hk hkd => absurd (nilM_get k) hkd⟩
  lg := fun k _ => nilM_get k
theorem end_below {ν : Nat → Value → Prop} {W W' : World} {Γ : Gm} {m : M} (h : Rel (startC ν W) Γ m W') : Below W.heap.size W W' := by
  have hb : ∀ k, k < W.heap.size → W'.heap[k]? = W.heap[k]? := fun k hk => by
    rw [Array.getElem?_eq_getElem hk]
    exact (h.prot k _ (Array.getElem?_eq_getElem hk)).1
  refine ⟨h.os, h.tape, h.output, Nat.le_of_not_lt fun hlt => ?_, hb⟩
  have h1 := hb W'.heap.size hlt
  rw [Array.getElem?_eq_getElem hlt] at h1
  have := (Array.getElem?_eq_some_iff.1 h1).1
  omega
/-- A law comes to true wherever its run does. -/
theorem law_true {h : Hk} (hh : HkOK h) {f : FuncId} {vs : List V} (hrun : runB h f vs = true) (hB : hasB f = true) {W : World} (h6 : 6 ≤ W.heap.size) {args : List Value} (hv : DVL (fun _ _ => False) startG vs args) :
    Calls P f args.toArray W fun x W' => x = .returned (.bool true) ∧ Below W.heap.size W W' := by
  obtain ⟨fn, hf, hc⟩ := call_ok (c := startC (fun _ _ => False) W) facts (drawOK facts) hh 1000000 (start_rel _ h6) hv (okA_yes hrun)
  have hb := hasB_some hB hf
  have hC := hc.resolve_right (fun h2 => by rw [hb] at h2; exact absurd h2.1 (by simp))
  refine hC.2.mono fun x W' hE => ?_
  obtain ⟨v, y, m', Γ', rfl, hl, hR', hy', hk⟩ := hE
  obtain ⟨h4, _⟩ := yes_bi hk
  have := leV_ok h4 hy'
  rw [dv_bool this]
  exact ⟨rfl, end_below hR'⟩
end Go.Proofs.YtiekoeapmhhjbaaGreatDoor.X
