/- The interpreter is sound: append, copies, maps, iterators, conversions. -/
import Derived.Deep.AppendSrc
import Derived.Lib.ConvBytes
import Derived.Maps.RangeRun
import Derived.Test.YtiekoeapmhhjbaaGreatDoorMC
/- The interpreter is sound, part O: append. -/
namespace Go.Proofs.YtiekoeapmhhjbaaGreatDoor.X
open Go Go.RowKit
set_option linter.unusedVariables false
set_option linter.unusedSimpArgs false
variable {c : Ctx} {Γ Γ' : Gm} {m m' : M} {w w' : World} {ρ : Operand → Value} {e : En} {Q : Program}
/-- What an append comes to, by the room that there is. -/
structure App (Q : Program) (t u ty el : TypeId) (z : Nat) (zc : Array Value) (X : Value) (n : Nat) (ys : List Value) (w : World) : Prop where
  room : ∀ (a : Addr) (l p : Nat) (w' : World), l + n ≤ p → (storeCells (a.add (l * z)) ys).run Q w = .ok () w' → (Builtin.append_ #[t, u] ty #[.slice (some a) l p, X]).run Q w = .ok (.slice (some a) (l + n) p) w'
  none_ : n = 0 → (Builtin.append_ #[t, u] ty #[.slice none 0 0, X]).run Q w = .ok (.slice none 0 0) w
  grow : ∀ (base : Option Addr) (l p : Nat) (olds : List Value), (Builtin.firstCells z l (.slice base l p)).run Q w.drew = .ok olds.toArray w.drew → p < l + n → l ≤ 1000000 →
    (Builtin.append_ #[t, u] ty #[.slice base l p, X]).run Q w = .ok (.slice (some ⟨w.heap.size, 0, none⟩) (l + n) (grownCap w (l + n) p el)) (w.drew.alloc (.cells ((olds ++ ys).toArray ++ Builtin.zeroCells zc (grownCap w (l + n) p el - (l + n))) el))
/-- A new row of known cells, and more room. -/
theorem grown_ok (h : Rel c Γ m w) {cs : List V} {zs : List Value} {el : TypeId} {l z G : Nat} {rest : Array Value} {v : V} (hv : DVL c.ν Γ cs zs) (h1 : ∀ y ∈ zs, y.oneCell' = true) (hl : zs.length = l * z) (hr : rest.size = (G - l) * z) (hG : l ≤ G) (hg : grown m cs el l z = some (v, m')) :
    ∃ Γ', LeG Γ Γ' ∧ Rel c Γ' m' (w.drew.alloc (.cells (zs.toArray ++ rest) el)) ∧ DV c.ν Γ' v (.slice (some ⟨w.heap.size, 0, none⟩) l G) := by
  unfold grown at hg
  rw [alloC_eq] at hg
  cases hg
  have hR' := h.newC (w' := w.drew.alloc (.cells (zs.toArray ++ rest) el)) rest.toList (T := el) (fz := false) rfl rfl rfl hv h1 (by
    show w.heap.push _ = _
    congr 2
    apply Array.ext'
    simp)
  refine ⟨_, LeG.add h.fresh _, hR', mk_slice (addG_same _ _ _) ⟨hG, ?_⟩⟩
  show 0 + G * z = (zs ++ rest.toList).length
  rw [List.length_append, hl, Array.length_toList, hr, ← Nat.add_mul, Nat.zero_add, show l + (G - l) = G from by omega]
theorem wr_nil {b o : Nat} (h : wr m b o [] = some m') (hR : Rel c Γ m w) : Rel c Γ m' w := by
  obtain ⟨g, w', hg, hR', hrun⟩ := hR.wr (ys := []) h DVL.nil (fun _ h => (by cases h))
  have := hrun P
  have e1 : (storeCells ⟨g.blk, g.sh + o, none⟩ []).run P w = .ok () w := rfl
  rw [e1] at this
  cases this
  exact hR'
theorem zOK_ok {ez : TypeId × Nat} (h : zOK Q ez = true) : ∃ i zc, Q.info? ez.1 = some i ∧ i.zero = some zc ∧ zc.cells.size = ez.2 := by
  unfold zOK at h
  cases hc : cellsV (zeroT Q ez.1) with
  | none => rw [hc] at h; cases h
  | some zv =>
    rw [hc] at h
    have h' : Nat.beq (len zv) ez.2 = true := h
    rw [Nat.beq_eq, len_eq] at h'
    obtain ⟨z, hz, ys, h1, h2, h3⟩ := zeroT_ok (c := ⟨_, nu0, default, fun _ => none, fun _ => .dead⟩) (Γ := fun _ => none) hc
    obtain ⟨i, hi, hzz⟩ := Option.map_eq_some_iff.1 hz
    exact ⟨i, z, hi, hzz, by rw [h3, List.size_toArray, h1.length, h']⟩
theorem append_ok (hR : Rel c Γ m w) {t u ty : TypeId} {s : V} {S X : Value} {n : Nat} {news : List V} {ys : List Value} {v : V} (hs : DV c.ν Γ s S) (hn : DVL c.ν Γ news ys) (h1 : ∀ y ∈ ys, y.oneCell' = true) (h : xAppend Q m t s n news = some (v, m'))
    (hl : ∀ el z zc i, elz Q t = some (el, z) → Q.info? el = some i → i.zero = some zc → zc.cells.size = z → ys.length = n * z) (happ : ∀ el z zc i, elz Q t = some (el, z) → Q.info? el = some i → i.zero = some zc → zc.cells.size = z → (n + big) * (i.bytes + 1) ≤ 70368744177664 → App Q t u ty el z zc.cells X n ys w) :
    ∃ x w' Γ', LeG Γ Γ' ∧ Rel c Γ' m' w' ∧ DV c.ν Γ' v x ∧ (Builtin.append_ #[t, u] ty #[S, X]).run Q w = .ok x w' := by
  unfold xAppend at h
  rw [ob_eq] at h
  obtain ⟨⟨el, z⟩, hez, h⟩ := h
  rw [ob_eq] at h
  obtain ⟨by_, hby, h⟩ := h
  rw [bi_eq, bi_eq', bi_eq] at h
  obtain ⟨hzok, hz0, hb, h⟩ := h
  rw [Nat.ble_eq] at hb
  obtain ⟨i, zc, hi, hzc, hzs⟩ := zOK_ok hzok
  dsimp only at hi hzs
  have hlen := hl el z zc i hez hi hzc hzs
  have hbi : by_ = i.bytes := by
    unfold byT at hby
    rw [hi] at hby
    cases hby
    rfl
  have A := happ el z zc i hez hi hzc hzs (by rw [← hbi]; exact hb)
  have hzpos : 0 < z := by
    rcases Nat.eq_zero_or_pos z with h0 | h0
    · simp only [h0] at hz0; cases hz0
    · exact h0
  have hzr : ∀ k, (Builtin.zeroCells zc.cells k).size = k * z := fun k => by rw [size_zeroCells, hzs]
  cases s with
  | nilS =>
    have h' : bi (Nat.beq n 0) (one .nilS m) (grown m news el n z) = some (v, m') := h
    rw [dv_nilS hs]
    cases h0 : Nat.beq n 0 with
    | true =>
      rw [h0, bi_t] at h'
      cases h'
      rw [Nat.beq_eq] at h0
      exact ⟨_, w, Γ, LeG.refl _, hR, by rw [DV], A.none_ h0⟩
    | false =>
      rw [h0, bi_f] at h'
      have hne : n ≠ 0 := fun he => by rw [he] at h0; cases h0
      have hrun := A.grow none 0 0 [] (run_firstCells_none w.drew z 0 0 0) (by omega) (by omega)
      rw [Nat.zero_add, List.nil_append] at hrun
      obtain ⟨Γ', h2, h3, h4⟩ := grown_ok hR hn h1 hlen (hzr (grownCap w n 0 el - n)) (grownCap_ge w n 0 el) h'
      exact ⟨_, _, Γ', h2, h3, h4, hrun⟩
  | emp c0 =>
    have h' : bi (Nat.beq n 0) (one (.emp c0) m) (bi c0 (grown m news el n z) none) = some (v, m') := h
    obtain ⟨a, p, hp, rfl⟩ := dv_emp hs
    cases h0 : Nat.beq n 0 with
    | true =>
      rw [h0, bi_t] at h'
      cases h'
      rw [Nat.beq_eq] at h0
      subst h0
      have hys : ys = [] := List.eq_nil_of_length_eq_zero (by rw [hlen, Nat.zero_mul])
      have := A.room a 0 p w (Nat.zero_le _) (by rw [hys]; rfl)
      exact ⟨_, w, Γ, LeG.refl _, hR, mk_emp hp, this⟩
    | false =>
      rw [h0, bi_f, bi_eq] at h'
      obtain ⟨rfl, h'⟩ := h'
      have hne : n ≠ 0 := fun he => by rw [he] at h0; cases h0
      have hp0 := hp rfl
      subst hp0
      have hrun := A.grow (some a) 0 0 [] (by simp [Builtin.firstCells, loadCells, loadCellsFrom]) (by omega) (by omega)
      rw [Nat.zero_add, List.nil_append] at hrun
      obtain ⟨Γ', h2, h3, h4⟩ := grown_ok hR hn h1 hlen (hzr (grownCap w n 0 el - n)) (grownCap_ge w n 0 el) h'
      exact ⟨_, _, Γ', h2, h3, h4, hrun⟩
  | slice b o l cp =>
    obtain ⟨g, p, hg, hcap, rfl⟩ := dv_slice hs
    have hadd : (⟨g.blk, g.sh + o, none⟩ : Addr).add (l * z) = ⟨g.blk, g.sh + (o + l * z), none⟩ := by rw [add_lit, Nat.add_assoc]
    have drew_cell : ∀ a, w.drew.cell? a = w.cell? a := fun a => rfl
    -- the old row, as it is copied
    have olds_ : ∀ old, rd m b o (l * z) = some old → ∃ olds, DVL c.ν Γ old olds ∧ (∀ y ∈ olds, y.oneCell' = true) ∧ olds.length = l * z ∧ (∀ j v, olds[j]? = some v → w.cell? ⟨g.blk, g.sh + o + j, none⟩ = some v) ∧ (Builtin.firstCells z l (.slice (some ⟨g.blk, g.sh + o, none⟩) l p)).run Q w.drew = .ok olds.toArray w.drew := by
      intro old hold
      obtain ⟨g', olds, hg', h2, h3, h4, h5⟩ := hR.rd hold
      rw [hg] at hg'
      cases hg'
      exact ⟨olds, h2, h3, h4, h5, run_firstCells_some w.drew z l _ l p olds h4 (fun j v hj => by rw [add_lit]; exact h5 j v hj)⟩
    cases cp with
    | is cp =>
      have h' : bi (Nat.ble l big) (bi (Nat.ble (l + n) cp) (ob (wr m b (o + l * z) news) fun m => one (.slice b o (l + n) (.is cp)) m) (ob (rd m b o (l * z)) fun old => grown m (lapp old news) el (l + n) z)) none = some (v, m') := h
      rw [bi_eq] at h'
      obtain ⟨hbig, h'⟩ := h'
      rw [Nat.ble_eq] at hbig
      obtain ⟨hlp, rfl⟩ := hcap
      cases hq : Nat.ble (l + n) p with
      | true =>
        rw [hq, bi_t, ob_eq] at h'
        obtain ⟨m2, hm2, h'⟩ := h'
        cases h'
        rw [Nat.ble_eq] at hq
        obtain ⟨g', w', hg', hR', hrun⟩ := hR.wr hm2 hn h1
        rw [hg] at hg'
        cases hg'
        exact ⟨_, w', Γ, LeG.refl _, hR', mk_slice hg ⟨hq, rfl⟩, A.room _ l p w' hq (by rw [hadd]; exact hrun Q)⟩
      | false =>
        rw [hq, bi_f, ob_eq] at h'
        obtain ⟨old, hold, h'⟩ := h'
        have hlt : p < l + n := by
          rcases Nat.lt_or_ge p (l + n) with h | h
          · exact h
          · rw [Nat.ble_eq_true_of_le h] at hq; cases hq
        obtain ⟨olds, h2, h3, h4, h5, h6⟩ := olds_ old hold
        have hrun := A.grow _ l p olds h6 hlt (by have : big = 1000000 := rfl; omega)
        rw [lapp_eq] at h'
        obtain ⟨Γ', h7, h8, h9⟩ := grown_ok hR (h2.append hn) (fun y hy => (List.mem_append.1 hy).elim (h3 y) (h1 y)) (by rw [List.length_append, h4, hlen, ← Nat.add_mul]) (hzr (grownCap w (l + n) p el - (l + n))) (grownCap_ge w (l + n) p el) h'
        exact ⟨_, _, Γ', h7, h8, h9, hrun⟩
    | all z2 =>
      have h' : bi (Nat.ble l big) (bi (Nat.beq z z2) (ob (roomN m b o) fun rm => bi (Nat.ble ((l + n) * z2) rm) (ob (wr m b (o + l * z2) news) fun m => one (.slice b o (l + n) (.all z2)) m) (ob (rd m b o (l * z2)) fun old => grownF (m.kill b) (lapp old news) el (l + n) z2 (fzOf m b))) none) none = some (v, m') := h
      rw [bi_eq, bi_eq, ob_eq] at h'
      obtain ⟨hbig, hz2, rm, hrm, h'⟩ := h'
      rw [Nat.ble_eq] at hbig
      rw [Nat.beq_eq] at hz2
      subst hz2
      obtain ⟨hlp, hN⟩ := hcap
      have hN' : o + p * z = g.N := hN
      obtain ⟨g', hg', hroom⟩ := hR.room hrm
      rw [hg] at hg'
      cases hg'
      cases hq : Nat.ble ((l + n) * z) rm with
      | true =>
        rw [hq, bi_t, ob_eq] at h'
        obtain ⟨m2, hm2, h'⟩ := h'
        cases h'
        rw [Nat.ble_eq] at hq
        have hle : l + n ≤ p := Nat.le_of_mul_le_mul_right (by omega : (l + n) * z ≤ p * z) hzpos
        obtain ⟨g', w', hg', hR', hrun⟩ := hR.wr hm2 hn h1
        rw [hg] at hg'
        cases hg'
        exact ⟨_, w', Γ, LeG.refl _, hR', mk_slice hg ⟨hle, hN⟩, A.room _ l p w' hle (by rw [hadd]; exact hrun Q)⟩
      | false =>
        rw [hq, bi_f, ob_eq] at h'
        obtain ⟨old, hold, h'⟩ := h'
        obtain ⟨olds, h2, h3, h4, h5, h6⟩ := olds_ old hold
        unfold grownF at h'
        rw [frc_eq, allo_eq, len_eq, lapp_eq] at h'
        cases h'
        obtain ⟨q, t2, hb2, _, _⟩ := rd_inv hold
        obtain ⟨T2, fz2, hbk⟩ : ∃ T fz, m.get b = .cells q t2 T fz := by
          rcases hb2 with h | h
          · exact h
          · unfold roomN at hrm; rw [h] at hrm; cases hrm
        have hfz : fzOf m b = fz2 := by unfold fzOf; rw [hbk]; rfl
        rw [hfz]
        obtain ⟨g', hg', hk⟩ := hR.hold b (by rw [hbk]; simp)
        rw [hg] at hg'
        cases hg'
        rw [hbk] at hk
        obtain ⟨B, T', fr, hB, hsz, hqN, hfr0, hfr, hcs⟩ := hk
        have hdead : (m.kill b).get b = .dead := by
          rcases M.get_put m b b .dead with ⟨_, h⟩ | ⟨_, h | h⟩
          · exact absurd rfl h
          · exact h
          · exact h
        have hlz : (olds ++ ys).length = (l + n) * z := by rw [List.length_append, h4, hlen, ← Nat.add_mul]
        have hone : ∀ y ∈ olds ++ ys, y.oneCell' = true := fun y hy => (List.mem_append.1 hy).elim (h3 y) (h1 y)
        have hDV := h2.append hn
        by_cases hle : l + n ≤ p
        · -- in place
          have hfit : g.sh + (o + l * z) + ys.length ≤ B.size := by
            have : (l + n) * z ≤ p * z := Nat.mul_le_mul_right _ hle
            rw [Nat.add_mul] at this
            omega
          have hst := run_storeCells_fr (Q := Q) g.blk (g.sh + (o + l * z)) T' fr ys 0 B w hB hfr (by simpa using hfit) h1
          rw [Nat.add_zero] at hst
          have hrun := A.room ⟨g.blk, g.sh + o, none⟩ l p _ hle (by rw [hadd]; exact hst)
          have hR1 : Rel c Γ (m.kill b) (w.setRow g.blk (B.toList.take (g.sh + (o + l * z)) ++ ys ++ B.toList.drop (g.sh + (o + l * z) + ys.length)).toArray) :=
            hR.put hg (by rw [hbk]; exact ownB_cells) rfl rfl rfl (by simp) (fun j hj => setRow_other w g.blk j _ hj) trivial
          have hR2 := hR1.new (g := ⟨g.blk, g.sh + o, g.N - o⟩) (b := .cells (old ++ news).length (trOf (old ++ news)) el fz2) (by simpa using (hR.dom b g hg).2) (fun k gk hk hd => ?_) (fun q' o' hq' => (hR.prot q' o' hq').2 b g hg (by rw [hbk]; exact ownB_cells.1)) ?_
          · refine ⟨_, _, _, LeG.add hR1.fresh _, hR2, ?_, hrun⟩
            have := mk_slice (c := c) (Γ := addG Γ (m.kill b).n ⟨g.blk, g.sh + o, g.N - o⟩) (o := 0) (l := l + n) (p := p) (cp := .all z) (addG_same _ _ _) ⟨hle, (by show 0 + p * z = g.N - o; omega)⟩
            exact this
          · by_cases hkb : k = b
            · rw [hkb, hdead] at hd; exact absurd rfl hd
            · rcases M.get_put m b k .dead with ⟨e, _⟩ | ⟨e, _⟩
              · have hd' : m.get k ≠ .dead := by rw [← e]; exact hd
                exact Ne.symm (hR.dis b k g gk (Ne.symm hkb) hg hk (by rw [hbk]; exact ownB_cells) hd')
              · exact absurd e hkb
          · refine ⟨_, T', fr, setRow_heap w g.blk B _ T' fr hB, ?_, ?_, hfr0, fun i hi => hfr i ?_, fun i hi => ?_⟩
            · simp only [List.size_toArray, List.length_append, List.length_take, List.length_drop, Array.length_toList]
              omega
            · show (old ++ news).length ≤ g.N - o
              rw [← hDV.length, hlz]
              have : (l + n) * z ≤ p * z := Nat.mul_le_mul_right _ hle
              omega
            · simp only [List.size_toArray, List.length_append, List.length_take, List.length_drop, Array.length_toList] at hi
              omega
            · rw [← hDV.length] at hi
              obtain ⟨v2, hv2⟩ : ∃ v2, (old ++ news)[i]? = some v2 := ⟨_, List.getElem?_eq_getElem (by rw [← hDV.length]; exact hi)⟩
              obtain ⟨y, hy, hvy⟩ := hDV.get hv2
              refine ⟨y, ?_, hone y (List.mem_of_getElem? hy), ?_⟩
              · rw [getElem_seg hfit]
                show (if g.sh + o + i < g.sh + (o + l * z) then B[g.sh + o + i]? else if g.sh + o + i < g.sh + (o + l * z) + ys.length then ys[g.sh + o + i - (g.sh + (o + l * z))]? else B[g.sh + o + i]?) = some y
                rw [hlz, Nat.add_mul] at hi
                by_cases hi1 : i < l * z
                · rw [if_pos (by omega)]
                  rw [List.getElem?_append_left (by omega)] at hy
                  have := h5 i y hy
                  simp only [World.cell?, hB] at this
                  simpa using this
                · rw [if_neg (by omega), if_pos (by omega)]
                  rw [List.getElem?_append_right (by omega), h4] at hy
                  rw [show g.sh + o + i - (g.sh + (o + l * z)) = i - l * z from by omega]
                  exact hy
              · rcases trOf_get hv2 with e1 | e1
                · rw [e1]; exact hvy.mono (LeG.add hR1.fresh _)
                · rw [e1, DV]; trivial
        · -- a new row
          have hrun := A.grow _ l p olds h6 (by omega) (by have : big = 1000000 := rfl; omega)
          have hRk := hR.kill b
          have hG := grownCap_ge w (l + n) p el
          have hR2 := hRk.newC (w' := w.drew.alloc (.cells ((olds ++ ys).toArray ++ Builtin.zeroCells zc.cells (grownCap w (l + n) p el - (l + n))) el)) (Builtin.zeroCells zc.cells (grownCap w (l + n) p el - (l + n))).toList (T := el) (fz := fz2) rfl rfl rfl hDV hone (by
              show w.heap.push _ = _
              congr 2
              apply Array.ext'
              simp)
          refine ⟨_, _, _, LeG.add hRk.fresh _, hR2, ?_, hrun⟩
          · refine mk_slice (addG_same _ _ _) ⟨hG, ?_⟩
            show 0 + _ * z = (olds ++ ys ++ _).length
            rw [List.length_append, hlz, Array.length_toList, hzr, ← Nat.add_mul, Nat.zero_add, show l + n + (grownCap w (l + n) p el - (l + n)) = grownCap w (l + n) p el from by omega]
  | _ => cases h
end Go.Proofs.YtiekoeapmhhjbaaGreatDoor.X
/- The interpreter is sound, part P: what is appended; builtins. -/
namespace Go.Proofs.YtiekoeapmhhjbaaGreatDoor.X
open Go Go.RowKit
set_option linter.unusedVariables false
set_option linter.unusedSimpArgs false
variable {c : Ctx} {Γ Γ' : Gm} {m m' : M} {w w' : World} {ρ : Operand → Value} {e : En} {Q : Program}
/-- What is appended, or copied, yields these cells. -/
structure SrcN (Q : Program) (z : Nat) (X : Value) (n : Nat) (ys : List Value) (w : World) : Prop where
  len : ∀ w' : World, (Builtin.lenOf X).run Q w' = .ok n w'
  cells : (Builtin.firstCells z n X).run Q w = .ok ys.toArray w
  cellsD : (Builtin.firstCells z n X).run Q w.drew = .ok ys.toArray w.drew
theorem App.src {t u ty el : TypeId} {z n : Nat} {zc X : Value} {i : TypeInfo} {ys : List Value} (hS : SrcN Q z X n ys w) (ht : Q.underlying t = some (.slice el)) (hk : (∃ e', Q.underlying u = some (.slice e')) ∨ Q.underlying u = some .string) (hi : Q.info? el = some i) (hz : i.zero = some zc) (hsz : i.size = z)
    (hfit : (n + 1000000) * (i.bytes + 1) ≤ 70368744177664) : App Q t u ty el z zc.cells X n ys w := by
  subst hsz
  have hb : ∀ l, l ≤ 1000000 → (l + n) * i.bytes ≤ 140737488355328 ∧ l + n ≤ 70368744177664 := fun l hl => by
    have h1 : (l + n) * i.bytes ≤ (n + 1000000) * (i.bytes + 1) := Nat.mul_le_mul (by omega) (by omega)
    have h2 : (n + 1000000) * 1 ≤ (n + 1000000) * (i.bytes + 1) := Nat.mul_le_mul_left _ (by omega)
    omega
  refine ⟨fun a l p w' hle hst => ?_, fun h0 => ?_, fun base l p olds hold hg hl => ?_⟩
  · rcases hk with ⟨e', hu⟩ | hu <;> (simp [Builtin.append_, run_underlying ht, run_underlying hu, sizeOf, typeInfo, hi, hS.len, hle, hS.cells, hst])
  · subst h0
    rcases hk with ⟨e', hu⟩ | hu <;> (simp [Builtin.append_, run_underlying ht, run_underlying hu, sizeOf, typeInfo, hi, hS.len, hS.cells])
  · obtain ⟨hb1, hb2⟩ := hb l hl
    have hfit' := growslice_fits hg hb1
    have hn : ¬ (l + n ≤ p) := by omega
    have h63' : ¬ (9223372036854775807 < ((l : Int) + (n : Int))) := by omega
    have h48' : ¬ (281474976710656 < Builtin.nextslicecap (l + n) p * i.bytes) := by omega
    rcases hk with ⟨e', hu⟩ | hu <;>
      (simp [Builtin.append_, run_underlying ht, run_underlying hu, sizeOf, typeInfo, zeroValue, hi, hz, hS.len, hn, h63', h48', Question.forced, hS.cellsD, hold, newRow, grownCap]
       congr 2
       apply Array.ext'
       simp [List.append_assoc])
theorem App.make {t u ty el : TypeId} {k q : IntKind} {z n : Nat} {zc : Value} {i : TypeInfo} (ht : Q.underlying t = some (.slice el)) (hu : Q.underlying u = some (.int k)) (hi : Q.info? el = some i) (hz : i.zero = some zc) (hsz : i.size = z) (hzs : zc.cells.size = z)
    (hfit : (n + 1000000) * (i.bytes + 1) ≤ 70368744177664) : App Q t u ty el z zc.cells (.int q n) n (Builtin.zeroCells zc.cells n).toList w := by
  subst hsz
  have hb : ∀ l, l ≤ 1000000 → (l + n) * i.bytes ≤ 140737488355328 ∧ l + n ≤ 70368744177664 := fun l hl => by
    have h1 : (l + n) * i.bytes ≤ (n + 1000000) * (i.bytes + 1) := Nat.mul_le_mul (by omega) (by omega)
    have h2 : (n + 1000000) * 1 ≤ (n + 1000000) * (i.bytes + 1) := Nat.mul_le_mul_left _ (by omega)
    omega
  have hn63 := (hb 0 (Nat.zero_le _)).2
  have hw : IntKind.i64.wrap (n : Int) = n := wrap_pos (k := .i64) (by unfold posI; rw [Nat.blt_eq]; show n < 9223372036854775808; omega)
  have h0 : ¬ ((n : Int) < 0) := by omega
  have h48 : ¬ (281474976710656 < (n : Int) * (i.bytes : Int)) := by
    have := (hb 0 (Nat.zero_le _)).1
    rw [Nat.zero_add] at this
    have h3 : ((n * i.bytes : Nat) : Int) = (n : Int) * (i.bytes : Int) := Int.natCast_mul _ _
    omega
  have hemp : n * i.size = 0 → Builtin.zeroCells zc.cells n = #[] := fun h => Array.eq_empty_of_size_eq_zero (by rw [size_zeroCells, hzs, h])
  refine ⟨fun a l p w' hle hst => ?_, fun hn0 => ?_, fun base l p olds hold hg hl => ?_⟩
  · by_cases hnz : n * i.size = 0
    · rw [hemp hnz] at hst
      simp at hst
      simp [Builtin.append_, run_underlying ht, run_underlying hu, sizeOf, typeInfo, zeroValue, hi, hz, asInt, asIntOf, hw, h0, h48, hle, hnz, hst]
    · simp [Builtin.append_, run_underlying ht, run_underlying hu, sizeOf, typeInfo, zeroValue, hi, hz, asInt, asIntOf, hw, h0, h48, hle, hnz, hst]
  · subst hn0
    simp [Builtin.append_, run_underlying ht, run_underlying hu, sizeOf, typeInfo, zeroValue, hi, hz, asInt, asIntOf, (show IntKind.i64.wrap 0 = 0 from rfl)]
  · obtain ⟨hb1, hb2⟩ := hb l hl
    have hfit' := growslice_fits hg hb1
    have hn : ¬ (l + n ≤ p) := by omega
    have h63' : ¬ (9223372036854775807 < ((l : Int) + (n : Int))) := by omega
    have h48' : ¬ (281474976710656 < Builtin.nextslicecap (l + n) p * i.bytes) := by omega
    by_cases hnz : n * i.size = 0
    · rw [hemp hnz]
      simp [Builtin.append_, run_underlying ht, run_underlying hu, sizeOf, typeInfo, zeroValue, hi, hz, asInt, asIntOf, hw, h0, h48, hn, h63', h48', hnz, Question.forced, hold, newRow, grownCap]
    · simp [Builtin.append_, run_underlying ht, run_underlying hu, sizeOf, typeInfo, zeroValue, hi, hz, asInt, asIntOf, hw, h0, h48, hn, h63', h48', hnz, Question.forced, hold, newRow, grownCap]
      congr 2
      apply Array.ext'
      simp [List.append_assoc]
theorem bytes_ok : ∀ s : List Nat, DVL c.ν Γ (mapL byteV s) (s.map fun b => Value.int .u8 ((UInt8.ofNat b).toNat : Int))
  | [] => DVL.nil
  | x :: r => DVL.cons (by
      have e1 : (UInt8.ofNat x).toNat = x % 256 := by simp
      show DV c.ν Γ (.int .u8 (x % 256)) (.int .u8 ((UInt8.ofNat x).toNat : Int))
      rw [e1]
      exact mk_int (wrap_pos (by unfold posI; rw [Nat.blt_eq]; exact Nat.mod_lt _ (by decide)))) (bytes_ok r)
theorem src_ok (hR : Rel c Γ m w) {z : Nat} {x : V} {X : Value} {n : Nat} {cs : List V} (hx : DV c.ν Γ x X) (hn : srcLen x = some n) (hc : srcCells m z x = some cs) :
    ∃ ys, DVL c.ν Γ cs ys ∧ (∀ y ∈ ys, y.oneCell' = true) ∧ ys.length = n * z ∧ SrcN Q z X n ys w := by
  cases x with
  | slice b o l k =>
    cases hn
    obtain ⟨g, p, hg, _, rfl⟩ := dv_slice hx
    obtain ⟨g', ys, hg', h1, h2, h3, h4⟩ := hR.rd hc
    rw [hg] at hg'
    cases hg'
    exact ⟨ys, h1, h2, h3, fun _ => rfl, run_firstCells_some w z n _ n p ys h3 (fun j v hj => by rw [add_lit]; exact h4 j v hj), run_firstCells_some w.drew z n _ n p ys h3 (fun j v hj => by rw [add_lit]; exact h4 j v hj)⟩
  | nilS =>
    cases hn
    cases hc
    rw [dv_nilS hx]
    exact ⟨[], DVL.nil, fun _ h => (by cases h), by simp, fun _ => rfl, run_firstCells_none w z 0 0 0, run_firstCells_none w.drew z 0 0 0⟩
  | emp k =>
    cases hn
    cases hc
    obtain ⟨a, p, _, rfl⟩ := dv_emp hx
    exact ⟨[], DVL.nil, fun _ h => (by cases h), by simp, fun _ => rfl, by simp [Builtin.firstCells, loadCells, loadCellsFrom], by simp [Builtin.firstCells, loadCells, loadCellsFrom]⟩
  | str s =>
    cases hn
    have hc' : bi (Nat.beq z 1) (some (mapL byteV s)) none = some cs := hc
    rw [bi_eq] at hc'
    obtain ⟨hz, hc'⟩ := hc'
    cases hc'
    rw [Nat.beq_eq] at hz
    subst hz
    rw [dv_str hx]
    have e1 : (byteCells (strB s)) = s.map fun b => Value.int .u8 ((UInt8.ofNat b).toNat : Int) := by simp [byteCells, strB]
    have e2 : len s = (strB s).size := by rw [len_eq, strB_size]
    refine ⟨_, bytes_ok s, fun y hy => ?_, by simp [len_eq], fun _ => ?_, ?_, ?_⟩
    · obtain ⟨_, _, rfl⟩ := List.mem_map.1 hy
      rfl
    · rw [e2]; rfl
    · rw [← e1, e2]; exact firstCells_string _ w
    · rw [← e1, e2]; exact firstCells_string _ w.drew
  | _ => cases hn
theorem repL_eq (z : List V) : ∀ n, repL n z = (List.replicate n z).flatten
  | 0 => rfl
  | n + 1 => by
    have : repL (n + 1) z = lapp z (repL n z) := rfl
    rw [this, lapp_eq, repL_eq z n, List.replicate_succ, List.flatten_cons]
theorem repL_ok {z : List V} {zs : List Value} (h : DVL c.ν Γ z zs) : ∀ n, DVL c.ν Γ (repL n z) (List.replicate n zs).flatten
  | 0 => DVL.nil
  | n + 1 => by
    have : repL (n + 1) z = lapp z (repL n z) := rfl
    rw [this, lapp_eq, List.replicate_succ, List.flatten_cons]
    exact h.append (repL_ok h n)
theorem zeroCells_eq (zs : List Value) (n : Nat) : (Builtin.zeroCells zs.toArray n).toList = (List.replicate n zs).flatten := by
  apply List.ext_getElem?
  intro j
  rcases Nat.eq_zero_or_pos zs.length with h0 | h0
  · have : zs = [] := List.eq_nil_of_length_eq_zero h0
    subst this
    simp [Builtin.zeroCells]
  · by_cases hj : j < n * zs.length
    · have hm : j % zs.length < zs.length := Nat.mod_lt _ h0
      have e1 : (List.replicate n zs).flatten[j]? = zs[j % zs.length]? := by
        clear hm
        induction n generalizing j with
        | zero => omega
        | succ n ih =>
          rw [List.replicate_succ, List.flatten_cons]
          by_cases hj2 : j < zs.length
          · rw [List.getElem?_append_left hj2, Nat.mod_eq_of_lt hj2]
          · rw [List.getElem?_append_right (by omega), ih (j - zs.length) (by rw [Nat.add_mul] at hj; omega)]
            congr 1
            rw [Nat.mod_eq_sub_mod (by omega : j ≥ zs.length)]
      rw [e1]
      simp [Builtin.zeroCells, hj, List.getElem?_eq_getElem hm, getElem!_pos, hm]
    · have e1 : (List.replicate n zs).flatten.length = n * zs.length := by simp
      rw [List.getElem?_eq_none (l := (List.replicate n zs).flatten) (by rw [e1]; omega), List.getElem?_eq_none (by simp [Builtin.zeroCells]; omega)]
end Go.Proofs.YtiekoeapmhhjbaaGreatDoor.X
/- The interpreter is sound, part Q: copy, clear, append; lengths and the like as operations. -/
namespace Go.Proofs.YtiekoeapmhhjbaaGreatDoor.X
open Go Go.RowKit
set_option linter.unusedVariables false
set_option linter.unusedSimpArgs false
variable {c : Ctx} {Γ Γ' : Gm} {m m' : M} {w w' : World} {ρ : Operand → Value} {e : En} {Q : Program}
/-- What a builtin comes to. -/
def BOut (c : Ctx) (Γ : Gm) (v : V) (m' : M) (w : World) (s : Sem Value) (Q : Program) : Prop := ∃ x w' Γ', LeG Γ Γ' ∧ Rel c Γ' m' w' ∧ DV c.ν Γ' v x ∧ s.run Q w = .ok x w'
theorem elz_elT {t el : TypeId} {z : Nat} (h : elz Q t = some (el, z)) : elT Q t = some el := by
  unfold elz at h
  rw [ob_eq] at h
  obtain ⟨a, ha, h⟩ := h
  rw [ob_eq] at h
  obtain ⟨b, _, h⟩ := h
  cases h
  exact ha
theorem elT_eq {t el : TypeId} (h : elT Q t = some el) : Q.underlying t = some (.slice el) := by
  unfold elT at h
  cases hu : Q.underlying t with
  | none => rw [hu] at h; cases h
  | some u => rw [hu] at h; cases u <;> first | (cases h; done) | (cases h; rfl)
theorem takeL_len {α : Type} {n : Nat} {l r : List α} (h : takeL n l = some r) : r = l.take n ∧ n ≤ l.length := takeL_eq n h
theorem minN_eq (a b : Nat) : minN a b = Nat.min a b := by
  unfold minN
  show bi (Nat.ble a b) a b = min a b
  cases h : Nat.ble a b with
  | true => rw [Nat.ble_eq] at h; rw [bi_t, Nat.min_eq_left h]
  | false =>
    have : ¬ a ≤ b := fun h2 => by rw [Nat.ble_eq_true_of_le h2] at h; cases h
    rw [bi_f, Nat.min_eq_right (by omega)]
theorem store_nil (a : Addr) : (storeCells a []).run Q w = .ok () w := rfl
/-- A part of a source. -/
theorem SrcN.part {z : Nat} {X : Value} {n k : Nat} (hR : Rel c Γ m w) {x : V} {cs : List V} (hx : DV c.ν Γ x X) (hn : srcLen x = some n) (hc : srcCells m z x = some cs) (hk : k ≤ n) :
    ∃ ys, DVL c.ν Γ (cs.take (k * z)) ys ∧ (∀ y ∈ ys, y.oneCell' = true) ∧ ys.length = k * z ∧ (Builtin.firstCells z k X).run Q w = .ok ys.toArray w := by
  have hkz : k * z ≤ n * z := Nat.mul_le_mul_right _ hk
  have hkm : min (k * z) (n * z) = k * z := Nat.min_eq_left hkz
  cases x with
  | slice b o l q =>
    cases hn
    obtain ⟨g, p, hg, _, rfl⟩ := dv_slice hx
    obtain ⟨g', ys, hg', h1, h2, h3, h4⟩ := hR.rd hc
    rw [hg] at hg'
    cases hg'
    have hl : (ys.take (k * z)).length = k * z := by rw [List.length_take, h3]; exact hkm
    refine ⟨ys.take (k * z), h1.take _, fun y hy => h2 y (List.mem_of_mem_take hy), hl, run_firstCells_some w z k _ n p _ hl (fun j v hj => ?_)⟩
    rw [add_lit]
    refine h4 j v ?_
    rw [List.getElem?_take] at hj
    split at hj
    · exact hj
    · cases hj
  | nilS =>
    cases hn
    cases hc
    rw [dv_nilS hx]
    have : k = 0 := by omega
    subst this
    exact ⟨[], by simpa using DVL.nil, fun _ h => (by cases h), by simp, run_firstCells_none w z 0 0 0⟩
  | emp q =>
    cases hn
    cases hc
    obtain ⟨a, p, _, rfl⟩ := dv_emp hx
    have : k = 0 := by omega
    subst this
    exact ⟨[], by simpa using DVL.nil, fun _ h => (by cases h), by simp, by simp [Builtin.firstCells, loadCells, loadCellsFrom]⟩
  | str s =>
    cases hn
    have hc' : bi (Nat.beq z 1) (some (mapL byteV s)) none = some cs := hc
    rw [bi_eq] at hc'
    obtain ⟨hz, hc'⟩ := hc'
    cases hc'
    rw [Nat.beq_eq] at hz
    subst hz
    rw [dv_str hx]
    rw [len_eq] at hk
    refine ⟨_, (bytes_ok s).take _, fun y hy => ?_, by simp; omega, ?_⟩
    · obtain ⟨_, _, rfl⟩ := List.mem_map.1 (List.mem_of_mem_take hy)
      rfl
    · simp only [Builtin.firstCells, Sem.run_pure]
      congr 1
      apply Array.ext'
      simp [strB, ByteArray.data_extract, List.map_take, Function.comp_def]
  | _ => cases hn
theorem sliceLen_ok {d : V} {D : Value} {dl : Nat} (hd : DV c.ν Γ d D) (h : sliceLen d = some dl) : ∃ base p, D = .slice base dl p := by
  cases d <;> first | (cases h; done) | skip
  · cases h
    obtain ⟨g, p, _, _, rfl⟩ := dv_slice hd
    exact ⟨_, _, rfl⟩
  · cases h
    exact ⟨_, _, dv_nilS hd⟩
  · cases h
    obtain ⟨a, p, _, rfl⟩ := dv_emp hd
    exact ⟨_, _, rfl⟩
theorem lenOf_ok {s : V} {S : Value} {sl : Nat} (hs : DV c.ν Γ s S) (h : srcLen s = some sl) : (Builtin.lenOf S).run Q w = .ok sl w := by
  cases s <;> first | (cases h; done) | skip
  · rename_i ss
    cases h
    rw [dv_str hs, show len ss = (strB ss).size from by rw [len_eq, strB_size]]
    rfl
  · cases h
    obtain ⟨g, p, _, _, rfl⟩ := dv_slice hs
    rfl
  · cases h
    rw [dv_nilS hs]
    rfl
  · cases h
    obtain ⟨a, p, _, rfl⟩ := dv_emp hs
    rfl
theorem firstCells_zero {s : V} {S : Value} {sl z : Nat} (hs : DV c.ν Γ s S) (h : srcLen s = some sl) : (Builtin.firstCells z 0 S).run Q w = .ok #[] w := by
  cases s <;> first | (cases h; done) | skip
  · rw [dv_str hs]
    simp only [Builtin.firstCells, Sem.run_pure]
    congr 1
    apply Array.ext'
    simp [ByteArray.data_extract]
  · obtain ⟨g, p, _, _, rfl⟩ := dv_slice hs
    simp [Builtin.firstCells, loadCells, loadCellsFrom]
  · rw [dv_nilS hs]
    exact run_firstCells_none w z 0 0 0
  · obtain ⟨a, p, _, rfl⟩ := dv_emp hs
    simp [Builtin.firstCells, loadCells, loadCellsFrom]
theorem copy_ok (hR : Rel c Γ m w) {t u ty : TypeId} {d s : V} {D S : Value} {v : V} (hd : DV c.ν Γ d D) (hs : DV c.ν Γ s S) (h : xCopy Q m t d s = some (v, m')) : BOut c Γ v m' w (Builtin.copy_ #[t, u] ty #[D, S]) Q := by
  unfold xCopy at h
  rw [ob_eq] at h
  obtain ⟨⟨el, z⟩, hez, h⟩ := h
  rw [ob_eq] at h
  obtain ⟨dl, hdl, h⟩ := h
  rw [ob_eq] at h
  obtain ⟨sl, hsl, h⟩ := h
  dsimp only at h
  obtain ⟨hu, hz⟩ := elz_eq hez
  dsimp only at hu hz
  have hlen : (Builtin.lenOf S).run Q w = .ok sl w := lenOf_ok hs hsl
  obtain ⟨base, p, hD⟩ := sliceLen_ok hd hdl
  have hrun : ∀ cells w', (Builtin.firstCells z (Nat.min sl dl) S).run Q w = .ok cells w → (match base with | some a => (storeCells a cells.toList).run Q w = .ok () w' | none => w' = w) →
      (Builtin.copy_ #[t, u] ty #[D, S]).run Q w = .ok (goInt (Nat.min sl dl)) w' := fun cells w' hc hs => by
    have hc' : (Builtin.firstCells z (min sl dl) S).run Q w = .ok cells w := hc
    rw [hD]
    cases base with
    | none => simp only at hs; subst hs; simp [Builtin.copy_, run_underlying hu, hlen, Sx.run_sizeOf hz, hc']
    | some a => simp only at hs; simp [Builtin.copy_, run_underlying hu, hlen, Sx.run_sizeOf hz, hc', hs]
  cases h0 : Nat.beq (minN sl dl) 0 with
  | true =>
    rw [h0, bi_t] at h
    cases h
    rw [Nat.beq_eq, minN_eq] at h0
    refine ⟨_, w, Γ, LeG.refl _, hR, ?_, hrun #[] w (by rw [h0]; exact firstCells_zero hs hsl) (by cases base <;> first | rfl | exact store_nil _)⟩
    rw [h0]
    exact mk_len (by decide)
  | false =>
    rw [h0, bi_f] at h
    unfold copyTo at h
    split at h
    · rename_i b o l q
      cases hdl
      rw [bi_eq] at h
      obtain ⟨hlt, h⟩ := h
      rw [Nat.blt_eq] at hlt
      rw [ob_eq] at h
      obtain ⟨cs, hcs, h⟩ := h
      rw [ob_eq] at h
      obtain ⟨cs2, hcs2, h⟩ := h
      rw [ob_eq] at h
      obtain ⟨m2, hm2, h⟩ := h
      cases h
      obtain ⟨rfl, hle⟩ := takeL_len hcs2
      have hmin : minN sl dl ≤ sl := by rw [minN_eq]; exact Nat.min_le_left _ _
      obtain ⟨ys, h3, h4, h5, h6⟩ := SrcN.part (Q := Q) hR hs hsl hcs hmin
      obtain ⟨g, w', hg, hR', hst⟩ := hR.wr hm2 h3 h4
      obtain ⟨g', p', hg', hcap, hD'⟩ := dv_slice hd
      rw [hg] at hg'
      cases hg'
      rw [hD] at hD'
      cases hD'
      rw [minN_eq] at h6 hlt ⊢
      exact ⟨_, w', Γ, LeG.refl _, hR', mk_len hlt, hrun ys.toArray w' h6 (hst Q)⟩
    · cases h
theorem zeroT_ok2 {t : TypeId} {vs : List V} (h : cellsV (zeroT Q t) = some vs) : ∃ i z ys, Q.info? t = some i ∧ i.zero = some z ∧ DVL c.ν Γ vs ys ∧ (∀ y ∈ ys, y.oneCell' = true) ∧ z.cells = ys.toArray := by
  obtain ⟨z, hz, ys, h1, h2, h3⟩ := zeroT_ok (c := c) (Γ := Γ) h
  obtain ⟨i, hi, hzz⟩ := Option.map_eq_some_iff.1 hz
  exact ⟨i, z, ys, hi, hzz, h1, h2, h3⟩
theorem clear_ok (hR : Rel c Γ m w) {t ty : TypeId} {x : V} {X : Value} {v : V} (hx : DV c.ν Γ x X) (h : xClear Q m t x = some (v, m')) : BOut c Γ v m' w (Builtin.clear_ #[t] ty #[X]) Q := by
  unfold xClear at h
  split at h
  · rw [ob_eq] at h
    obtain ⟨el, hel, h⟩ := h
    cases h
    rw [dv_nilS hx]
    exact ⟨_, w, Γ, LeG.refl _, hR, mk_tup0, by simp [Builtin.clear_, run_underlying (elT_eq hel)]⟩
  · rw [ob_eq] at h
    obtain ⟨el, hel, h⟩ := h
    cases h
    obtain ⟨a, p, _, rfl⟩ := dv_emp hx
    exact ⟨_, w, Γ, LeG.refl _, hR, mk_tup0, by simp [Builtin.clear_, run_underlying (elT_eq hel)]⟩
  · rename_i b o l q
    rw [ob_eq] at h
    obtain ⟨el, hel, h⟩ := h
    rw [ob_eq] at h
    obtain ⟨zv, hzv, h⟩ := h
    rw [ob_eq] at h
    obtain ⟨m2, hm2, h⟩ := h
    cases h
    obtain ⟨i, z, ys, hi, hz, h1, h2, h3⟩ := zeroT_ok2 (c := c) (Γ := Γ) hzv
    obtain ⟨g', p, hg', hcap, rfl⟩ := dv_slice hx
    have hmem : ∀ y ∈ (List.replicate l ys).flatten, y.oneCell' = true := fun y hy => by
      obtain ⟨s, hs, hy⟩ := List.mem_flatten.1 hy
      rw [List.eq_of_mem_replicate hs] at hy
      exact h2 y hy
    obtain ⟨g, w', hg, hR', hst⟩ := hR.wr hm2 (repL_ok h1 l) hmem
    rw [hg] at hg'
    cases hg'
    cases l with
    | zero =>
      have : w' = w := by
        have h4 := hst Q
        have h5 : (storeCells ⟨g'.blk, g'.sh + o, none⟩ (List.replicate 0 ys).flatten).run Q w = .ok () w := rfl
        rw [h5] at h4
        cases h4
        rfl
      subst this
      exact ⟨_, _, Γ, LeG.refl _, hR', mk_tup0, by simp [Builtin.clear_, run_underlying (elT_eq hel)]⟩
    | succ l =>
      have hst' := hst Q
      rw [← zeroCells_eq] at hst'
      exact ⟨_, _, Γ, LeG.refl _, hR', mk_tup0, by simp [Builtin.clear_, run_underlying (elT_eq hel), zeroValue, typeInfo, hi, hz, h3, hst']⟩
  · cases h
theorem make_ok (hR : Rel c Γ m w) {t u ty : TypeId} {k : IntKind} {s x : V} {S X : Value} {v : V} {n : Nat} {el : TypeId} {z : List V} (hs : DV c.ν Γ s S) (hx : DV c.ν Γ x X) (hu : Q.underlying u = some (.int k)) (hn : natV x = some n) (hel : elT Q t = some el) (hz : cellsV (zeroT Q el) = some z)
    (h : xAppend Q m t s n (repL n z) = some (v, m')) : BOut c Γ v m' w (Builtin.append_ #[t, u] ty #[S, X]) Q := by
  obtain ⟨i, zc, ys, hi, hzc, h1, h2, h3⟩ := zeroT_ok2 (c := c) (Γ := Γ) hz
  obtain ⟨q, rfl⟩ := natV_ok hn hx
  have hmem : ∀ y ∈ (List.replicate n ys).flatten, y.oneCell' = true := fun y hy => by
    obtain ⟨s, hs, hy⟩ := List.mem_flatten.1 hy
    rw [List.eq_of_mem_replicate hs] at hy
    exact h2 y hy
  have hlen : ∀ el2 z2, elz Q t = some (el2, z2) → el2 = el := fun el2 z2 h => by
    have := elz_elT h
    rw [hel] at this
    cases this
    rfl
  refine append_ok (ty := ty) (u := u) hR hs (repL_ok h1 n) hmem h ?_ ?_
  · intro el2 z2 zc2 i2 he hi2 hz2 hs2
    cases hlen el2 z2 he
    rw [hi] at hi2
    cases hi2
    rw [hzc] at hz2
    cases hz2
    rw [← zeroCells_eq, Array.length_toList, size_zeroCells, ← hs2, h3]
  · intro el2 z2 zc2 i2 he hi2 hz2 hs2 hfit
    cases hlen el2 z2 he
    rw [hi] at hi2
    cases hi2
    rw [hzc] at hz2
    cases hz2
    obtain ⟨_, hsz⟩ := elz_eq he
    dsimp only at hsz
    rw [hi] at hsz
    cases hsz
    have := App.make (w := w) (ty := ty) (q := q) (n := n) (elT_eq hel) hu hi hzc rfl hs2 hfit
    rw [h3, zeroCells_eq, ← h3] at this
    exact this
theorem appS_ok (hR : Rel c Γ m w) {t u ty : TypeId} {s x : V} {S X : Value} {v : V} (hs : DV c.ν Γ s S) (hx : DV c.ν Γ x X) (hk : (∃ e', Q.underlying u = some (.slice e')) ∨ Q.underlying u = some .string) (h : xAppS Q m t s x = some (v, m')) : BOut c Γ v m' w (Builtin.append_ #[t, u] ty #[S, X]) Q := by
  unfold xAppS at h
  rw [ob_eq] at h
  obtain ⟨⟨el, z⟩, hez, h⟩ := h
  rw [ob_eq] at h
  obtain ⟨n, hn, h⟩ := h
  rw [ob_eq] at h
  obtain ⟨cs, hcs, h⟩ := h
  dsimp only at hcs h
  obtain ⟨ys, h1, h2, h3, h4⟩ := src_ok (Q := Q) hR hx hn hcs
  obtain ⟨x, w', Γ', h5, h6, h7, h8⟩ := append_ok (ty := ty) (u := u) (X := X) hR hs h1 h2 h (fun el2 z2 _ _ he _ _ _ => by rw [hez] at he; cases he; exact h3) (fun el2 z2 zc i he hi hz hsz hfit => by
    rw [hez] at he
    cases he
    obtain ⟨hu, hsz2⟩ := elz_eq hez
    dsimp only at hu hsz2
    rw [hi] at hsz2
    cases hsz2
    exact App.src h4 hu hk hi hz rfl hfit)
  exact ⟨x, w', Γ', h5, h6, h7, h8⟩
end Go.Proofs.YtiekoeapmhhjbaaGreatDoor.X
/- The interpreter is sound, part R: maps with text keys. -/
namespace Go.Proofs.YtiekoeapmhhjbaaGreatDoor.X
open Go Go.RowKit
set_option linter.unusedVariables false
set_option linter.unusedSimpArgs false
variable {c : Ctx} {Γ Γ' : Gm} {m m' : M} {w w' : World} {ρ : Operand → Value} {e : En} {Q : Program}
theorem strB_eq {a b : List Nat} : strB a = strB b ↔ eqL a b = true := by
  rw [eqL_iff]
  constructor
  · intro h
    have := congrArg ByteArray.toList h
    rwa [strB_toList, strB_toList] at this
  · intro h
    unfold strB
    rw [h]
theorem mapT_eq {t el : TypeId} (h : mapT Q t = some el) : ∃ k, Q.underlying t = some (.map k el) ∧ Q.underlying k = some .string := by
  unfold mapT at h
  split at h
  · rename_i k el2 hu
    rw [bi_eq] at h
    obtain ⟨h1, h2⟩ := h
    cases h2
    exact ⟨k, hu, strT_eq h1⟩
  · cases h
/-- A map's entries, looked through. -/
theorem find_ok {k : V} {K : Value} (hk : DV c.ν Γ k K) : ∀ {es : List (V × V × Nat)} {ys : List MapEntry} {f : Option V} (i : Nat), Ent c.ν Γ es ys → findK k es = some f →
    (f = none ∧ Instr.findNow .string K ys i = some none ∧ delK k es = es) ∨
    (∃ v j e, f = some v ∧ Instr.findNow .string K ys i = some (some (i + j, e.val)) ∧ ys[j]? = some e ∧ DV c.ν Γ v e.val ∧ (∃ s, K = .string s ∧ e.key = .string s) ∧ Ent c.ν Γ (delK k es) (ys.eraseIdx j) ∧
      ∀ u U, DV c.ν Γ u U → Ent c.ν Γ (updK k u es) (ys.modify j fun e => { e with key := K, val := U }))
  | [], ys, f, i, h, hf => by
    rw [Ent] at h
    subst h
    cases hf
    exact .inl ⟨rfl, rfl, rfl⟩
  | x :: r, ys, f, i, h, hf => by
    rw [Ent] at h
    obtain ⟨y, s, rfl, h1, h2, h3, h4⟩ := h
    have hf' : ob (eqK k x.1) (fun b => bi b (some (some x.2.1)) (findK k r)) = some f := hf
    rw [ob_eq] at hf'
    obtain ⟨b, hb, hf'⟩ := hf'
    obtain ⟨p, q, rfl, hx, rfl⟩ : ∃ p q, k = .str p ∧ x.1 = .str q ∧ b = eqL p q := by
      unfold eqK at hb
      split at hb
      · cases hb; exact ⟨_, _, rfl, by assumption, rfl⟩
      · cases hb
    have hK := dv_str hk
    rw [hx] at h1
    have hY := dv_str h1
    subst hK
    have hsame : Instr.sameNow .string (.string (strB p)) y.key = some (eqL p q) := by
      rw [hY]
      show some (strB p == strB q) = some _
      congr 1
      rw [Bool.eq_iff_iff, MapKept.bytes_beq, strB_eq]
    have hde : delK (.str p) (x :: r) = match eqK (.str p) x.1 with | some true => r | _ => x :: delK (.str p) r := rfl
    have hup : ∀ u, updK (.str p) u (x :: r) = match eqK (.str p) x.1 with | some true => (.str p, u, x.2.2) :: r | _ => x :: updK (.str p) u r := fun _ => rfl
    have hke : eqK (.str p) x.1 = some (eqL p q) := by rw [hx]; rfl
    cases hq : eqL p q with
    | true =>
      rw [hq, bi_t] at hf'
      cases hf'
      rw [hq] at hsame hke
      refine .inr ⟨x.2.1, 0, y, rfl, by simp [Instr.findNow, hsame], rfl, h2, ⟨strB p, rfl, by rw [hY]; congr 1; exact (strB_eq.2 hq).symm⟩, ?_, fun u U hU => ?_⟩
      · rw [hde, hke]; exact h4
      · rw [hup, hke]
        exact ⟨_, s, rfl, hk, hU, h3, h4⟩
    | false =>
      rw [hq, bi_f] at hf'
      rw [hq] at hsame hke
      rcases find_ok hk (i + 1) h4 hf' with ⟨h5, h6, h7⟩ | ⟨v, j, e, h5, h6, h7, h8, h9, h10, h11⟩
      · exact .inl ⟨h5, by simp [Instr.findNow, hsame, h6], by rw [hde, hke]; exact congrArg _ h7⟩
      · refine .inr ⟨v, j + 1, e, h5, by simp [Instr.findNow, hsame, h6]; omega, by simpa using h7, h8, h9, ?_, fun u U hU => ?_⟩
        · rw [hde, hke]
          exact ⟨y, _, rfl, by rw [hx]; exact h1, h2, h3, h10⟩
        · rw [hup, hke]
          exact ⟨y, _, by simp [List.modify_succ_cons], by rw [hx]; exact h1, h2, h3, h11 u U hU⟩
theorem run_key {k : TypeId} (hk : Q.underlying k = some .string) (b : Bool) (K : Value) : (Instr.checkKey b 10000 k K).run Q w = .ok () w := by
  have key : ∀ n, (Instr.checkKey b (n + 1) k K).run Q w = .ok () w := fun n => by
    unfold Instr.checkKey
    rw [Sem.run_bind, run_underlying hk]
    cases K <;> rfl
  exact key 9999
theorem sameBits_str (s : ByteArray) : ∀ n, Instr.sameBits n (.string s) (.string s) = true
  | 0 => (MapKept.bytes_beq s s).2 rfl
  | _ + 1 => (MapKept.bytes_beq s s).2 rfl
theorem zeroO_ok {t : TypeId} {v : V} (h : zeroO Q t = some v) : ∃ z, DV c.ν Γ v z ∧ ∀ w, (zeroValue t).run Q w = .ok z w := by
  unfold zeroO at h
  split at h
  · rename_i i hi
    split at h
    · rename_i z hz
      cases h
      exact ⟨z, vOf_ok 4 z, fun w => by simp [zeroValue, typeInfo, hi, hz]⟩
    · cases h
  · cases h
/-- What lies in a map. -/
theorem xFind_ok (hR : Rel c Γ m w) {x k : V} {X K : Value} {r : Option V} (hx : DV c.ν Γ x X) (hk : DV c.ν Γ k K) (h : xFind m x k = some r) :
    ∃ ys : Array MapEntry, (X = .map none ∧ ys = #[] ∨ ∃ b cl, X = .map (some b) ∧ w.heap[b]? = some (.map ys cl)) ∧
      ((r = none ∧ Instr.findNow .string K ys.toList 0 = some none) ∨ ∃ v j e, r = some v ∧ Instr.findNow .string K ys.toList 0 = some (some (j, e)) ∧ DV c.ν Γ v e) := by
  unfold xFind at h
  split at h
  · cases h
    exact ⟨#[], .inl ⟨dv_nilM hx, rfl⟩, .inl ⟨rfl, rfl⟩⟩
  · rename_i b
    split at h
    · rename_i es cl hb
      obtain ⟨g, ys, hg, h1, h2⟩ := hR.map hb
      obtain ⟨g', hg', rfl⟩ := dv_map hx
      rw [hg] at hg'
      cases hg'
      refine ⟨ys, .inr ⟨_, cl, rfl, h1⟩, ?_⟩
      rcases find_ok hk 0 h2 h with ⟨h3, h4, _⟩ | ⟨v, j, e, h3, h4, _, h5, _⟩
      · exact .inl ⟨h3, h4⟩
      · exact .inr ⟨v, _, _, h3, h4, h5⟩
    · cases h
  · cases h
theorem lookup_ok (hR : Rel c Γ m w) {t : TypeId} {x k : V} {X K : Value} {ok : Bool} {v : V} (hx : DV c.ν Γ x X) (hk : DV c.ν Γ k K) (h : xLookup Q m t x k ok = some v) : ∃ z, DV c.ν Γ v z ∧ (Instr.lookup t X K ok).run Q w = .ok z w := by
  unfold xLookup at h
  rw [ob_eq] at h
  obtain ⟨el, hel, h⟩ := h
  rw [ob_eq] at h
  obtain ⟨r, hr, h⟩ := h
  obtain ⟨kt, hu, hkt⟩ := mapT_eq hel
  obtain ⟨ys, hX, hf⟩ := xFind_ok hR hx hk hr
  have hrun : ∀ V b, (match Instr.findNow .string K ys.toList 0 with | some (some (_, v)) => V = v ∧ b = true | some none => (∀ w, (zeroValue el).run Q w = .ok V w) ∧ b = false | none => False) → (Instr.lookup t X K ok).run Q w = .ok (if ok then .tuple #[V, .bool b] else V) w := fun V b hv => by
    have hck := fun e : Bool => run_key (w := w) hkt e K
    rcases hf with ⟨_, hf⟩ | ⟨v2, j, e2, _, hf, _⟩
    · rw [hf] at hv
      obtain ⟨h1, rfl⟩ := hv
      have hfk := MapKept.run_findKey (w := w) hkt hf
      rcases hX with ⟨rfl, rfl⟩ | ⟨b, cl, rfl, hb⟩
      · have hfk' : (Instr.findKey kt K []).run Q w = .ok none w := hfk
        cases ok <;> simp [Instr.lookup, run_underlying hu, hck, hfk', h1]
      · cases ok <;> simp [Instr.lookup, run_underlying hu, MapKept.run_getObj_map hb, hck, hfk, h1]
    · rw [hf] at hv
      obtain ⟨rfl, rfl⟩ := hv
      have hfk := MapKept.run_findKey (w := w) hkt hf
      rcases hX with ⟨rfl, rfl⟩ | ⟨b, cl, rfl, hb⟩
      · cases hf
      · cases ok <;> simp [Instr.lookup, run_underlying hu, MapKept.run_getObj_map hb, hck, hfk]
  rcases hf with ⟨rfl, hf⟩ | ⟨v2, j, e2, rfl, hf, hv2⟩
  · have h' : ob (zeroO Q el) (fun z => some (bi ok (.tup [z, .bool false]) z)) = some v := h
    rw [ob_eq] at h'
    obtain ⟨z, hz, h'⟩ := h'
    cases h'
    obtain ⟨zv, h1, h2⟩ := zeroO_ok (c := c) (Γ := Γ) hz
    refine ⟨_, ?_, hrun zv false (by rw [hf]; exact ⟨h2, rfl⟩)⟩
    cases ok
    · exact h1
    · show DV c.ν Γ (.tup [z, .bool false]) (.tuple #[zv, .bool false])
      rw [DV]
      exact ⟨[zv, .bool false], DVL.cons h1 (DVL.cons mk_bool DVL.nil), rfl⟩
  · have h' : some (bi ok (.tup [v2, .bool true]) v2) = some v := h
    cases h'
    refine ⟨_, ?_, hrun e2 true (by rw [hf]; exact ⟨rfl, rfl⟩)⟩
    cases ok
    · exact hv2
    · show DV c.ν Γ (.tup [v2, .bool true]) (.tuple #[e2, .bool true])
      rw [DV]
      exact ⟨[e2, .bool true], DVL.cons hv2 (DVL.cons mk_bool DVL.nil), rfl⟩
theorem OpOK.lookup (t : TypeId) (x k : Operand) (ok : Bool) : OpOK c (.lookup t x k ok) := fun e m K Γ w ρ dst T pos af gu hR hρ h => by
  have e1 : cOp (.lookup t x k ok) = ⟨fun e m K => ovm (xLookup P m t (ev x e) (ev k e) ok) m K⟩ := by kernel_rfl
  rw [e1] at h
  dsimp only at h
  obtain ⟨v, hv, hy⟩ := yes_ovm h
  obtain ⟨z, h1, h2⟩ := lookup_ok hR (hρ x) (hρ k) hv
  exact Out.pure hR hy h1 (by simp [execOp, h2])
theorem ownB_map {es : List (V × V × Nat)} {cl : Nat} : ownB (.map es cl) := ⟨by simp, by simp⟩
/-- A map's block turns. -/
theorem Rel.putMap (h : Rel c Γ m w) {r : Nat} {g : G} {es es' : List (V × V × Nat)} {cl cl' : Nat} {ys ys' : Array MapEntry} (hb : m.get r = .map es cl) (hg : Γ r = some g) (hh : w.heap[g.blk]? = some (.map ys cl)) (he : Ent c.ν Γ es' ys'.toList) :
    Rel c Γ (m.put r (.map es' cl')) { w with heap := w.heap.setIfInBounds g.blk (.map ys' cl') } := by
  obtain ⟨h1, h2⟩ := MapKept.heap_set (o' := .map ys' cl') hh
  exact h.put hg (by rw [hb]; exact ownB_map) rfl rfl rfl (by simp) h2 ⟨ys', h1, he⟩
theorem Ent.append : ∀ {a b : List (V × V × Nat)} {x y : List MapEntry}, Ent c.ν Γ a x → Ent c.ν Γ b y → Ent c.ν Γ (a ++ b) (x ++ y)
  | [], _, _, _, h, h' => by rw [Ent] at h; subst h; exact h'
  | _ :: _, _, _, _, h, h' => by
    rw [Ent] at h
    obtain ⟨y, s, rfl, h1, h2, h3, h4⟩ := h
    exact ⟨y, _, rfl, h1, h2, h3, Ent.append h4 h'⟩
theorem toList_modify (A : Array MapEntry) (j : Nat) (f : MapEntry → MapEntry) : (A.modify j f).toList = A.toList.modify j f := by
  simp
theorem mapUpdate_ok (hR : Rel c Γ m w) {t : TypeId} {x k v : V} {X K U : Value} (hx : DV c.ν Γ x X) (hk : DV c.ν Γ k K) (hv : DV c.ν Γ v U) (h : xMapUpdate Q m t x k v = some m') : ∃ w', Rel c Γ m' w' ∧ (Instr.mapUpdate t X K U).run Q w = .ok () w' := by
  unfold xMapUpdate at h
  rw [ob_eq] at h
  obtain ⟨el, hel, h⟩ := h
  obtain ⟨kt, hu, hkt⟩ := mapT_eq hel
  have hck := fun e : Bool => run_key (w := w) hkt e K
  split at h
  · rename_i r
    split at h
    · rename_i es cl hb
      obtain ⟨g, ys, hg, h1, h2⟩ := hR.map hb
      obtain ⟨g', hg', rfl⟩ := dv_map hx
      rw [hg] at hg'
      cases hg'
      rw [ob_eq] at h
      obtain ⟨f, hf, h⟩ := h
      rcases find_ok hk 0 h2 hf with ⟨rfl, h4, _⟩ | ⟨v2, j, e2, rfl, h4, h5, _, ⟨s, rfl, hs⟩, _, h6⟩
      · cases h
        have hfk := MapKept.run_findKey (w := w) hkt h4
        rw [lapp_eq]
        refine ⟨_, hR.putMap (ys' := ys.push ⟨K, U, cl⟩) (cl' := cl + 1) hb hg h1 ?_, ?_⟩
        · rw [Array.toList_push]
          exact h2.append ⟨_, [], rfl, hk, hv, rfl, rfl⟩
        · simp [Instr.mapUpdate, run_underlying hu, MapKept.run_getObj_map h1, hck, hfk, MapKept.run_setObj_map _ h1]
      · cases h
        have hfk := MapKept.run_findKey (w := w) hkt h4
        rw [Nat.zero_add] at hfk
        have h5' : ys[j]? = some e2 := by simpa using h5
        have hkeep : (Instr.keyThatStays (.string s) (.string s)).run Q w = .ok (.string s) w := by
          have : Instr.sameBits 10000 (.string s) (.string s) = true := sameBits_str s 10000
          simp [Instr.keyThatStays, this]
        refine ⟨_, hR.putMap (ys' := ys.modify j fun e => { e with key := .string s, val := U }) (cl' := cl) hb hg h1 ?_, ?_⟩
        · rw [toList_modify]
          exact h6 v U hv
        · simp [Instr.mapUpdate, run_underlying hu, MapKept.run_getObj_map h1, hck, hfk, h5', hs, hkeep, MapKept.run_setObj_map _ h1]
    · cases h
  · cases h
theorem OpOK.mapUpdate (t : TypeId) (x k v : Operand) : OpOK c (.mapUpdate t x k v) := fun e m K Γ w ρ dst T pos af gu hR hρ h => by
  have e1 : cOp (.mapUpdate t x k v) = ⟨fun e m K => oc (xMapUpdate P m t (ev x e) (ev k e) (ev v e)) none fun m => K (.tup []) m⟩ := by kernel_rfl
  rw [e1] at h
  dsimp only at h
  obtain ⟨m', hm', hy⟩ := yes_oc h
  obtain ⟨w', h1, h2⟩ := mapUpdate_ok hR (hρ x) (hρ k) (hρ v) hm'
  exact ⟨_, m', Γ, undef, w', LeG.refl _, h1, DV.undef, hy, .inr ⟨by simp [execOp, h2], rfl⟩⟩
theorem OpOK.insert (t : TypeId) (x k v : Operand) : OpOK c (.insert t x k v) := fun e m K Γ w ρ dst T pos af gu hR hρ h => by
  have e1 : cOp (.insert t x k v) = ⟨fun e m K => oc (xMapUpdate P m t (ev x e) (ev k e) (ev v e)) none fun m => K (.tup []) m⟩ := by kernel_rfl
  rw [e1] at h
  dsimp only at h
  obtain ⟨m', hm', hy⟩ := yes_oc h
  obtain ⟨w', h1, h2⟩ := mapUpdate_ok hR (hρ x) (hρ k) (hρ v) hm'
  exact ⟨_, m', Γ, undef, w', LeG.refl _, h1, DV.undef, hy, .inr ⟨by simp [execOp, h2], rfl⟩⟩
theorem delete_ok (hR : Rel c Γ m w) {t u ty : TypeId} {x k : V} {X K : Value} {v : V} (hx : DV c.ν Γ x X) (hk : DV c.ν Γ k K) (h : xDelete Q m t x k = some (v, m')) : BOut c Γ v m' w (Builtin.delete_ #[t, u] ty #[X, K]) Q := by
  unfold xDelete at h
  rw [ob_eq] at h
  obtain ⟨el, hel, h⟩ := h
  obtain ⟨kt, hu, hkt⟩ := mapT_eq hel
  have hck := fun e : Bool => run_key (w := w) hkt e K
  split at h
  · cases h
    rw [dv_nilM hx]
    exact ⟨_, w, Γ, LeG.refl _, hR, mk_tup0, by simp [Builtin.delete_, run_underlying hu, hck]⟩
  · rename_i r
    split at h
    · rename_i es cl hb
      obtain ⟨g, ys, hg, h1, h2⟩ := hR.map hb
      obtain ⟨g', hg', rfl⟩ := dv_map hx
      rw [hg] at hg'
      cases hg'
      rw [ob_eq] at h
      obtain ⟨f, hf, h⟩ := h
      cases h
      rcases find_ok hk 0 h2 hf with ⟨rfl, h4, h7⟩ | ⟨v2, j, e2, rfl, h4, h5, _, ⟨s, rfl, hs⟩, h6, _⟩
      · have hfk := MapKept.run_findKey (w := w) hkt h4
        rw [h7]
        exact ⟨_, _, Γ, LeG.refl _, hR.putMap (ys' := ys) (cl' := cl) hb hg h1 h2, mk_tup0, by simp [Builtin.delete_, run_underlying hu, MapKept.run_getObj_map h1, hck, hfk, MapKept.run_setObj_map _ h1]⟩
      · have hfk := MapKept.run_findKey (w := w) hkt h4
        rw [Nat.zero_add] at hfk
        have hjl : j < ys.size := by simpa using (List.getElem?_eq_some_iff.1 h5).1
        refine ⟨_, _, Γ, LeG.refl _, hR.putMap (ys' := ys.eraseIdxIfInBounds j) (cl' := cl) hb hg h1 ?_, mk_tup0, by simp [Builtin.delete_, run_underlying hu, MapKept.run_getObj_map h1, hck, hfk, MapKept.run_setObj_map _ h1]⟩
        unfold Array.eraseIdxIfInBounds
        rw [dif_pos hjl, Array.toList_eraseIdx]
        exact h6
    · cases h
  · cases h
end Go.Proofs.YtiekoeapmhhjbaaGreatDoor.X
/- The interpreter is sound, part S: iterators. -/
namespace Go.Proofs.YtiekoeapmhhjbaaGreatDoor.X
open Go Go.RowKit
set_option linter.unusedVariables false
set_option linter.unusedSimpArgs false
variable {c : Ctx} {Γ Γ' : Gm} {m m' : M} {w w' : World} {ρ : Operand → Value} {e : En} {Q : Program}
/-- A new block. -/
theorem new_blk (h : Rel c Γ m w) {b : Blk} {o : Obj} (hb : ∀ Γ', LeG Γ Γ' → BOK c.ν Γ' b ⟨w.heap.size, 0, 0⟩ (w.heap.push o)) : ∃ Γ', LeG Γ Γ' ∧ Rel c Γ' (m.add b) (w.alloc o) ∧ Γ' m.n = some ⟨w.heap.size, 0, 0⟩ :=
  ⟨_, LeG.add h.fresh _, h.alloc (w' := w.alloc o) (N := 0) rfl rfl rfl rfl (hb _ (LeG.add h.fresh _)), addG_same _ _ _⟩
theorem run_newObj (o : Obj) : (newObj o).run Q w = .ok w.heap.size (w.alloc o) := by
  simp [newObj, Sem.run]
theorem get_push_self (h : Array Obj) (o : Obj) : (h.push o)[h.size]? = some o := by simp
theorem OpOK.makeMap (t : TypeId) (r : Option Operand) : OpOK c (.makeMap t r) := fun e m K Γ w ρ dst T pos af gu hR hρ h => by
  cases r with
  | some x => exact (yes_none h).elim
  | none =>
    have h' : Yes (allo m (.map [] 0) fun k m => K (.map k) m) := h
    rw [allo_eq] at h'
    obtain ⟨Γ', hl, hR', hg⟩ := new_blk hR (b := .map [] 0) (o := .map #[] 0) (fun Γ' _ => ⟨#[], get_push_self _ _, by rw [Ent]⟩)
    refine ⟨_, _, Γ', .map (some w.heap.size), _, hl, hR', by rw [DV]; exact ⟨_, hg, rfl⟩, h', .inl ?_⟩
    simp [execOp, Instr.makeMap, run_newObj]
theorem mk_ptr0 {k : Nat} {b : Nat} (h : Γ k = some ⟨b, 0, 0⟩) : DV c.ν Γ (.ptr k 0) (.pointer (some ⟨b, 0, none⟩)) := mk_ptr (o := 0) h
theorem range_ok (hR : Rel c Γ m w) {t : TypeId} {x : V} {X : Value} {v : V} (hx : DV c.ν Γ x X) (h : xRange Q m t x = some (v, m')) : ∃ z w' Γ', LeG Γ Γ' ∧ Rel c Γ' m' w' ∧ DV c.ν Γ' v z ∧ (Instr.range t X).run Q w = .ok z w' := by
  unfold xRange at h
  split at h
  · rename_i s
    rw [bi_eq, allo_eq] at h
    obtain ⟨hs, h⟩ := h
    cases h
    have hu := strT_eq hs
    rw [dv_str hx]
    obtain ⟨Γ', hl, hR', hg⟩ := new_blk hR (b := .strIter s 0) (o := .stringIter (strB s) 0) (fun Γ' _ => ⟨rfl, get_push_self _ _⟩)
    exact ⟨_, _, Γ', hl, hR', mk_ptr0 hg, by simp [Instr.range, run_underlying hu, run_newObj]⟩
  · rw [ob_eq] at h
    obtain ⟨el, hel, h⟩ := h
    rw [allo_eq] at h
    cases h
    obtain ⟨kt, hu, hkt⟩ := mapT_eq hel
    rw [dv_nilM hx]
    obtain ⟨Γ', hl, hR', hg⟩ := new_blk hR (b := .mapIter none 0 [] 0) (o := .mapIter none 0 #[] 0) (fun Γ' _ => ⟨rfl, none, get_push_self _ _, rfl⟩)
    exact ⟨_, _, Γ', hl, hR', mk_ptr0 hg, by simp [Instr.range, run_underlying hu, run_newObj]⟩
  · rename_i r
    rw [ob_eq] at h
    obtain ⟨el, hel, h⟩ := h
    obtain ⟨kt, hu, hkt⟩ := mapT_eq hel
    split at h
    · rename_i es cl hb
      rw [allo_eq] at h
      cases h
      obtain ⟨g, ys, hg, h1, h2⟩ := hR.map hb
      obtain ⟨g', hg', rfl⟩ := dv_map hx
      rw [hg] at hg'
      cases hg'
      obtain ⟨Γ', hl, hR', hg2⟩ := new_blk hR (b := .mapIter (some r) cl [] cl) (o := .mapIter (some g.blk) cl #[] cl) (fun Γ' hl => ⟨rfl, some g.blk, get_push_self _ _, g, hl _ _ hg, rfl⟩)
      exact ⟨_, _, Γ', hl, hR', mk_ptr0 hg2, by simp [Instr.range, run_underlying hu, MapKept.run_getObj_map h1, run_newObj]⟩
    · cases h
  · cases h
theorem OpOK.range (t : TypeId) (x : Operand) : OpOK c (.range t x) := fun e m K Γ w ρ dst T pos af gu hR hρ h => by
  have e1 : cOp (.range t x) = ⟨fun e m K => orm (xRange P m t (ev x e)) K⟩ := by kernel_rfl
  rw [e1] at h
  dsimp only at h
  obtain ⟨v, m', hv, hy⟩ := yes_orm h
  obtain ⟨z, w', Γ', h1, h2, h3, h4⟩ := range_ok hR (hρ x) hv
  exact ⟨v, m', Γ', z, w', h1, h2, h3, hy, .inl (by simp [execOp, h4])⟩
theorem filL_eq {α : Type} (p : α → Bool) : ∀ l : List α, filL p l = l.filter p
  | [] => rfl
  | x :: r => by
    have : filL p (x :: r) = bi (p x) (x :: filL p r) (filL p r) := rfl
    rw [this, filL_eq p r, List.filter_cons]
    cases p x <;> rfl
theorem allB_eq {α : Type} (p : α → Bool) : ∀ l : List α, allB p l = l.all p
  | [] => rfl
  | x :: r => by
    have : allB p (x :: r) = bi (p x) (allB p r) false := rfl
    rw [this, allB_eq p r, List.all_cons]
    cases p x <;> rfl
theorem memN_eq (k : Nat) : ∀ l : List Nat, memN k l = l.contains k
  | [] => rfl
  | x :: r => by
    have : memN k (x :: r) = bi (Nat.beq k x) true (memN k r) := rfl
    rw [this, memN_eq k r, List.contains_cons]
    have : Nat.beq k x = (k == x) := by rw [Bool.eq_iff_iff, Nat.beq_eq, beq_iff_eq]
    rw [this]
    cases k == x <;> rfl
theorem isNil_eq {α : Type} (l : List α) : isNil l = l.isEmpty := by cases l <;> rfl
theorem Ent.filter (p : Nat → Bool) : ∀ {a : List (V × V × Nat)} {x : List MapEntry}, Ent c.ν Γ a x → Ent c.ν Γ (a.filter fun x => p x.2.2) (x.filter fun e => p e.born)
  | [], _, h => by rw [Ent] at h; subst h; show Ent c.ν Γ [] []; rw [Ent]
  | a :: r, _, h => by
    rw [Ent] at h
    obtain ⟨y, s, rfl, h1, h2, h3, h4⟩ := h
    rw [List.filter_cons, List.filter_cons, h3]
    cases p a.2.2 with
    | true => exact ⟨y, _, rfl, h1, h2, h3, Ent.filter p h4⟩
    | false => exact Ent.filter p h4
theorem Ent.isEmpty {a : List (V × V × Nat)} {x : List MapEntry} (h : Ent c.ν Γ a x) : a.isEmpty = x.isEmpty := by
  have := h.length
  cases a <;> cases x <;> simp_all
theorem Ent.all (p : Nat → Bool) : ∀ {a : List (V × V × Nat)} {x : List MapEntry}, Ent c.ν Γ a x → a.all (fun x => p x.2.2) = x.all fun e => p e.born
  | [], _, h => by rw [Ent] at h; subst h; rfl
  | a :: r, _, h => by
    rw [Ent] at h
    obtain ⟨y, s, rfl, h1, h2, h3, h4⟩ := h
    rw [List.all_cons, List.all_cons, h3, Ent.all p h4]
theorem Ent.get : ∀ {a : List (V × V × Nat)} {x : List MapEntry} {i : Nat} {e : MapEntry}, Ent c.ν Γ a x → x[i]? = some e → ∃ b, a[i]? = some b ∧ DV c.ν Γ b.1 e.key ∧ DV c.ν Γ b.2.1 e.val ∧ e.born = b.2.2
  | [], _, i, e, h, hi => by rw [Ent] at h; subst h; simp at hi
  | a :: r, _, i, e, h, hi => by
    rw [Ent] at h
    obtain ⟨y, s, rfl, h1, h2, h3, h4⟩ := h
    cases i with
    | zero => simp at hi; subst hi; exact ⟨a, rfl, h1, h2, h3⟩
    | succ i => simp at hi; simpa using Ent.get h4 hi
/-- The next of an iterator over a map. -/
theorem run_next_map2 (w : World) (ty : TypeId) (r q since last clock : Nat) (seen : List Nat) (L : List MapEntry)
    (hr : w.heap[r]? = some (.mapIter (some q) since seen.toArray last)) (hb : w.heap[q]? = some (.map L.toArray clock)) (hc : (!seen.isEmpty && !L.isEmpty && L.all fun e => decide (last ≤ e.born)) = false) :
    let left := L.filter fun e => !seen.contains e.born
    let old := left.filter fun e => decide (e.born < since)
    let new := left.filter fun e => decide (since ≤ e.born)
    ∃ w1 : World, (w1 = w ∨ w1 = w.drew) ∧ ((old = [] ∧ (Instr.next (.pointer (some ⟨r, 0, none⟩)) false ty).run Q w = .ok (.tuple #[.bool false]) w1) ∨
    ∃ (i : Nat) (e : MapEntry), (old ++ new)[i]? = some e ∧ (Instr.next (.pointer (some ⟨r, 0, none⟩)) false ty).run Q w = .ok (.tuple #[.bool true, e.key, e.val]) (ChangeMaps.setBlock w1 r (.mapIter (some q) since (seen ++ [e.born]).toArray clock))) := by
  intro left old new
  have e2 : Array.filter (fun e : MapEntry => !seen.toArray.contains e.born) L.toArray = left.toArray := by
    rw [List.filter_toArray]
    congr 2
    funext e
    simp
  have e3 : Array.filter (fun e : MapEntry => decide (e.born < since)) left.toArray = old.toArray := by rw [List.filter_toArray]
  have e4 : Array.filter (fun e : MapEntry => decide (e.born ≥ since)) left.toArray = new.toArray := by rw [List.filter_toArray]
  have hc' : (!seen.toArray.isEmpty && !L.toArray.isEmpty && L.toArray.all fun x => decide (x.born ≥ last)) = false := by
    rw [List.isEmpty_toArray, List.isEmpty_toArray, List.all_toArray]
    exact hc
  generalize hC : ((if old.toArray.isEmpty = true then #[none] else #[]) ++ Array.map some (old.toArray ++ new.toArray) : Array (Option MapEntry)) = C
  have hCs : 0 < C.size := by
    rw [← hC]
    cases old <;> simp
  have hch : ∃ (j : Nat) (w1 : World), j < C.size ∧ (w1 = w ∨ w1 = w.drew) ∧ (choose (Question.mapNext C.size)).run Q w = .ok j w1 := by
    by_cases hf : C.size ≤ 1
    · exact ⟨0, w, by omega, Or.inl rfl, by simp [choose, Sem.run, Question.forced, hf]⟩
    · exact ⟨_, w.drew, Nat.mod_lt _ (by omega), Or.inr rfl, by
        simp only [choose, Sem.run, Question.forced, decide_eq_true_eq, hf, if_false, Question.cut]
        rfl⟩
  obtain ⟨j, w1, hj, hal, hrun⟩ := hch
  refine ⟨w1, hal, ?_⟩
  have hr1 : w1.heap[r]? = some (.mapIter (some q) since seen.toArray last) := by rcases hal with rfl | rfl <;> exact hr
  have hgo : (Instr.next (.pointer (some ⟨r, 0, none⟩)) false ty).run Q w = ((match C[j]? with
    | some (some e) => do
      setObj r (.mapIter (some q) since (seen.toArray.push e.born) clock)
      pure (.tuple #[.bool true, e.key, e.val])
    | some none => pure (.tuple #[.bool false])
    | none => stuck "Next: no such candidate") : Sem Value).run Q w1 := by
    simp only [Instr.next, getObj, Sem.run_bind, Sem.run, hr, hb, Result.andThen, hc', Bool.false_eq_true, if_false, e2, e3, e4, hC, hrun]
    rfl
  cases hCj : C[j]? with
  | none => rw [Array.getElem?_eq_getElem hj] at hCj; cases hCj
  | some o =>
    rw [hCj] at hgo
    cases o with
    | none =>
      left
      refine ⟨?_, hgo⟩
      cases ho : old with
      | nil => rfl
      | cons a r =>
        rw [ho] at hC
        rw [← hC] at hCj
        have := Array.mem_of_getElem? hCj
        simp at this
    | some e =>
      right
      have hi : ∃ i : Nat, (old ++ new)[i]? = some e := by
        have : some e ∈ C := Array.mem_of_getElem? hCj
        rw [← hC] at this
        have hmem : e ∈ old ++ new := by
          rcases Array.mem_append.1 this with h | h
          · split at h <;> simp at h
          · simpa using h
        exact List.getElem?_of_mem hmem
      obtain ⟨i, hi⟩ := hi
      refine ⟨i, e, hi, ?_⟩
      rw [hgo]
      simp only [Sem.run_bind, run_setObj_at hr1, Result.andThen]
      simp
theorem mk_next {k u : V} {K U : Value} (h1 : DV c.ν Γ k K) (h2 : DV c.ν Γ u U) : DV c.ν Γ (.tup [.bool true, k, u]) (.tuple #[.bool true, K, U]) := by
  rw [DV]; exact ⟨[.bool true, K, U], DVL.cons mk_bool (DVL.cons h1 (DVL.cons h2 DVL.nil)), rfl⟩
theorem mk_over : DV c.ν Γ (.tup [.bool false]) (.tuple #[.bool false]) := by
  rw [DV]; exact ⟨[.bool false], DVL.cons mk_bool DVL.nil, rfl⟩
theorem decode_ascii {s : List Nat} {p a : Nat} {r : List Nat} (h : s.drop p = a :: r) (ha : a % 256 < 128) : p < (strB s).size ∧ Utf8.decode (strB s) p = (a % 256, 1) := by
  have hp : p < s.length := by
    have := congrArg List.length h
    simp at this
    omega
  have hsz : p < (strB s).size := by rw [strB_size]; exact hp
  refine ⟨hsz, ?_⟩
  have hi : s[p]? = some a := by rw [← List.head?_drop, h]; rfl
  have hg : (strB s).get! p = UInt8.ofNat a := by
    have h3 : (strB s).data[p]? = some (UInt8.ofNat a) := by simp [strB, hi]
    obtain ⟨hl2, h4⟩ := Array.getElem?_eq_some_iff.1 h3
    show (strB s).data[p]! = _
    rw [getElem!_pos (strB s).data p hl2, h4]
  have hn : (UInt8.ofNat a).toNat = a % 256 := by simp
  unfold Utf8.decode
  simp only [Nat.add_zero, hg, hn]
  rw [if_pos (by omega)]
theorem next_ok (hR : Rel c Γ m w) {x : V} {X : Value} {isS : Bool} {ty : TypeId} {K : Kt} (hx : DV c.ν Γ x X) (h : Yes (alls K (xNext m x isS))) : ∃ v m' z w', Rel c Γ m' w' ∧ DV c.ν Γ v z ∧ Yes (K v m') ∧ (Instr.next X isS ty).run Q w = .ok z w' := by
  generalize hl : xNext m x isS = l at h
  have hne := alls_ne h
  have hall := yes_alls h
  clear h
  unfold xNext at hl
  split at hl
  · rename_i r
    split at hl
    · rename_i s p hb
      cases isS with
      | false => exact absurd hl.symm hne
      | true =>
        rw [bi_t] at hl
        obtain ⟨g, hg, hk⟩ := hR.hold r (by rw [hb]; simp)
        rw [hb] at hk
        obtain ⟨h0, hk'⟩ : g.sh = 0 ∧ w.heap[g.blk]? = some (.stringIter (strB s) p) := hk
        obtain ⟨g', hg', hX⟩ := dv_ptr hx
        rw [hg] at hg'
        cases hg'
        rw [h0] at hX
        subst hX
        rw [dropL_eq] at hl
        cases hd : s.drop p with
        | nil =>
          rw [hd] at hl
          have hl' : [((V.tup [.bool false]), m.kill r)] = l := hl
          have hy := hall (_, _) (by rw [← hl']; exact List.mem_singleton.2 rfl)
          have hp : ¬ (p < (strB s).size) := by
            have := congrArg List.length hd
            simp at this
            rw [strB_size]
            omega
          exact ⟨_, _, _, w, hR.kill r, mk_over, hy, by simp [Instr.next, run_getObj hk' (by simp), hp]⟩
        | cons a rest =>
          rw [hd] at hl
          have hl' : bi (bi (Nat.blt (a % 256) 128) (Nat.blt p 9223372036854775808) false) [(V.tup [.bool true, intV p, .int .i32 (a % 256)], m.put r (.strIter s (p + 1)))] [] = l := hl
          cases h1 : bi (Nat.blt (a % 256) 128) (Nat.blt p 9223372036854775808) false with
          | false => rw [h1] at hl'; exact absurd hl'.symm hne
          | true =>
            rw [h1, bi_t] at hl'
            obtain ⟨h2, h3⟩ : Nat.blt (a % 256) 128 = true ∧ Nat.blt p 9223372036854775808 = true := by
              cases h4 : Nat.blt (a % 256) 128 with
              | false => rw [h4] at h1; cases h1
              | true => rw [h4] at h1; exact ⟨rfl, h1⟩
            rw [Nat.blt_eq] at h2 h3
            have hy := hall (_, _) (by rw [← hl']; exact List.mem_singleton.2 rfl)
            obtain ⟨hp, hdec⟩ := decode_ascii hd h2
            obtain ⟨h5, h6⟩ := MapKept.heap_set (o' := .stringIter (strB s) (p + 1)) hk'
            refine ⟨_, _, .tuple #[.bool true, goInt p, .int .i32 ((a % 256 : Nat) : Int)], { w with heap := w.heap.setIfInBounds g.blk (.stringIter (strB s) (p + 1)) }, hR.put (b := .strIter s (p + 1)) hg (by rw [hb]; exact ⟨by simp, by simp⟩) rfl rfl rfl (by simp) h6 ⟨h0, h5⟩, ?_, hy, ?_⟩
            · exact mk_next (mk_len h3) (mk_int (wrap_pos (by unfold posI; rw [Nat.blt_eq]; show a % 256 < 2147483648; omega)))
            · simp [Instr.next, run_getObj hk' (by simp), hp, hdec, setObj, Sem.run, hk']
    · rename_i since seen last hb
      cases isS with
      | true => exact absurd hl.symm hne
      | false =>
        rw [bi_f] at hl
        obtain ⟨g, hg, hk⟩ := hR.hold r (by rw [hb]; simp)
        rw [hb] at hk
        obtain ⟨h0, q, h1, h2⟩ := hk
        obtain ⟨g', hg', hX⟩ := dv_ptr hx
        rw [hg] at hg'
        cases hg'
        rw [h0] at hX
        subst hX
        have h2' : q = none := h2
        subst h2'
        have hy := hall (_, _) (by rw [← hl]; exact List.mem_singleton.2 rfl)
        exact ⟨_, _, _, w, hR.kill r, mk_over, hy, by simp [Instr.next, run_getObj h1 (by simp)]⟩
    · rename_i q since seen last hb
      cases isS with
      | true => exact absurd hl.symm hne
      | false =>
        rw [bi_f] at hl
        obtain ⟨g, hg, hk⟩ := hR.hold r (by rw [hb]; simp)
        rw [hb] at hk
        obtain ⟨h0, q', h1, h2⟩ := hk
        obtain ⟨g', hg', hX⟩ := dv_ptr hx
        rw [hg] at hg'
        cases hg'
        rw [h0] at hX
        subst hX
        obtain ⟨gq, hgq, rfl⟩ : ∃ g', Γ q = some g' ∧ q' = some g'.blk := h2
        split at hl
        · rename_i es clock hbq
          obtain ⟨g2, ys, hg2, h3, h4⟩ := hR.map hbq
          rw [hgq] at hg2
          cases hg2
          have hcond : bi (isNil seen) false (bi (isNil es) false (allB (fun (x : V × V × Nat) => Nat.ble last x.2.2) es)) = false := by
            cases hq : bi (isNil seen) false (bi (isNil es) false (allB (fun (x : V × V × Nat) => Nat.ble last x.2.2) es)) with
            | false => rfl
            | true => rw [hq, bi_t] at hl; exact absurd hl.symm hne
          rw [hcond, bi_f] at hl
          have hc : (!seen.isEmpty && !ys.toList.isEmpty && ys.toList.all fun e => decide (last ≤ e.born)) = false := by
            rw [← h4.isEmpty, ← h4.all (fun b => decide (last ≤ b))]
            rw [isNil_eq, isNil_eq, allB_eq] at hcond
            have e1 : (fun (x : V × V × Nat) => Nat.ble last x.2.2) = fun x => decide (last ≤ x.2.2) := by
              funext x
              rw [Bool.eq_iff_iff, Nat.ble_eq, decide_eq_true_iff]
            rw [e1] at hcond
            cases h5 : seen.isEmpty
            · cases h6 : es.isEmpty
              · rw [h5, h6] at hcond
                exact hcond
              · rfl
            · rfl
          obtain ⟨w1, hw1, hres⟩ := run_next_map2 (Q := Q) w ty g.blk gq.blk since last clock seen ys.toList h1 (by simpa using h3) hc
          have hR1 : Rel c Γ m w1 := by
            rcases hw1 with rfl | rfl
            · exact hR
            · exact hR.idle rfl rfl rfl (Nat.le_refl _) (fun _ _ => rfl)
          have hk1 : w1.heap[g.blk]? = some (.mapIter (some gq.blk) since seen.toArray last) := by rcases hw1 with rfl | rfl <;> exact h1
          have hE1 := h4.filter (fun b => !seen.contains b)
          have hE2 := hE1.filter (fun b => decide (b < since))
          have hE3 := hE1.filter (fun b => decide (since ≤ b))
          have hE := hE2.append hE3
          have f1 : (fun (x : V × V × Nat) => notB (memN x.2.2 seen)) = fun x => !seen.contains x.2.2 := by funext x; rw [notB_eq, memN_eq]
          have f2 : (fun (x : V × V × Nat) => Nat.blt x.2.2 since) = fun x => decide (x.2.2 < since) := by funext x; rw [Bool.eq_iff_iff, Nat.blt_eq, decide_eq_true_iff]
          have f3 : (fun (x : V × V × Nat) => Nat.ble since x.2.2) = fun x => decide (since ≤ x.2.2) := by funext x; rw [Bool.eq_iff_iff, Nat.ble_eq, decide_eq_true_iff]
          dsimp only at hl
          rw [f1, f2, f3] at hl
          simp only [filL_eq, lapp_eq, mapL_eq, isNil_eq] at hl
          rcases hres with ⟨ho, hrun⟩ | ⟨i, e, hi, hrun⟩
          · have hO : (es.filter fun x => !seen.contains x.2.2).filter (fun x => decide (x.2.2 < since)) = [] := by
              have := hE2.length
              rw [ho] at this
              exact List.eq_nil_of_length_eq_zero this.symm
            rw [hO] at hl
            have hy := hall (.tup [.bool false], m.kill r) (by rw [← hl]; exact List.mem_cons_self ..)
            exact ⟨_, _, _, w1, hR1.kill r, mk_over, hy, hrun⟩
          · obtain ⟨b, hb1, hkk, hkv, hborn⟩ := hE.get hi
            have hmem : (V.tup [.bool true, b.1, b.2.1], m.put r (.mapIter (some q) since (seen ++ [b.2.2]) clock)) ∈ l := by
              have h5 : (V.tup [.bool true, b.1, b.2.1], m.put r (.mapIter (some q) since (seen ++ [b.2.2]) clock)) ∈ List.map (fun (x : V × V × Nat) => (V.tup [.bool true, x.1, x.2.1], m.put r (.mapIter (some q) since (seen ++ [x.2.2]) clock))) ((es.filter fun x => !seen.contains x.2.2).filter (fun x => decide (x.2.2 < since)) ++ (es.filter fun x => !seen.contains x.2.2).filter (fun x => decide (since ≤ x.2.2))) :=
                List.mem_map.2 ⟨b, List.mem_of_getElem? hb1, rfl⟩
              rw [← hl]
              cases ((es.filter fun x => !seen.contains x.2.2).filter (fun x => decide (x.2.2 < since))).isEmpty with
              | true => exact List.mem_cons_of_mem _ h5
              | false => exact h5
            have hy := hall _ hmem
            obtain ⟨h5, h6⟩ := MapKept.heap_set (o' := .mapIter (some gq.blk) since (seen ++ [e.born]).toArray clock) hk1
            rw [hborn] at h5 h6 hrun
            exact ⟨_, _, _, _, hR1.put (b := .mapIter (some q) since (seen ++ [b.2.2]) clock) (w' := ChangeMaps.setBlock w1 g.blk (.mapIter (some gq.blk) since (seen ++ [b.2.2]).toArray clock)) hg (by rw [hb]; exact ⟨by simp, by simp⟩) rfl rfl rfl (by simp [ChangeMaps.setBlock]) h6 ⟨h0, some gq.blk, h5, gq, hgq, rfl⟩, mk_next hkk hkv, hy, hrun⟩
        · exact absurd hl.symm hne
    · exact absurd hl.symm hne
  · exact absurd hl.symm hne
theorem OpOK.next (x : Operand) (s : Bool) : OpOK c (.next x s) := fun e m K Γ w ρ dst T pos af gu hR hρ h => by
  have h' : Yes (alls K (xNext m (ev x e) s)) := h
  obtain ⟨v, m', z, w', h1, h2, h3, h4⟩ := next_ok (Q := P) (ty := T) hR (hρ x) h'
  exact ⟨v, m', Γ, z, w', LeG.refl _, h1, h2, h3, .inl (by simp [execOp, h4])⟩
theorem lastL_ok {s : Nat} : ∀ {l : List Nat}, lastL l = some s → l.toArray.back? = some s
  | [], h => by cases h
  | x :: r, h => by
    have h' : bi (isNil r) (some x) (lastL r) = some s := h
    cases r with
    | nil => cases h'; simp
    | cons y r =>
      have := lastL_ok (l := y :: r) h'
      simp only [List.back?_toArray] at this ⊢
      rw [List.getLast?_cons_cons]
      exact this
theorem findB_ok {k : Nat} {b : V × V × Nat} : ∀ {es : List (V × V × Nat)} {ys : List MapEntry}, Ent c.ν Γ es ys → findB k es = some b → ∃ e, ys.find? (·.born == k) = some e ∧ DV c.ν Γ b.1 e.key ∧ DV c.ν Γ b.2.1 e.val
  | [], ys, h, hf => by cases hf
  | x :: r, ys, h, hf => by
    rw [Ent] at h
    obtain ⟨y, s, rfl, h1, h2, h3, h4⟩ := h
    have hf' : bi (Nat.beq x.2.2 k) (some x) (findB k r) = some b := hf
    rw [List.find?_cons, h3]
    cases hq : Nat.beq x.2.2 k with
    | true =>
      rw [hq, bi_t] at hf'
      cases hf'
      rw [Nat.beq_eq] at hq
      rw [hq, beq_self_eq_true]
      exact ⟨y, rfl, h1, h2⟩
    | false =>
      rw [hq, bi_f] at hf'
      have : (x.2.2 == k) = false := by
        rw [beq_eq_false_iff_ne]
        intro he
        rw [he, Nat.beq_refl] at hq
        cases hq
      rw [this]
      exact findB_ok h4 hf'
theorem entry_ok (hR : Rel c Γ m w) {x : V} {X : Value} {v : V} (hx : DV c.ν Γ x X) (h : xEntry m x = some v) : ∃ z, DV c.ν Γ v z ∧ (Instr.entry X).run Q w = .ok z w := by
  unfold xEntry at h
  split at h
  · rename_i r
    split at h
    · rename_i q since seen last hb
      split at h
      · rename_i es clock hbq
        rw [bi_eq, ob_eq] at h
        obtain ⟨hcl, s, hs, h⟩ := h
        rw [ob_eq] at h
        obtain ⟨b, hfb, h⟩ := h
        cases h
        rw [Nat.beq_eq] at hcl
        subst hcl
        obtain ⟨g, hg, hk⟩ := hR.hold r (by rw [hb]; simp)
        rw [hb] at hk
        obtain ⟨h0, q', h1, gq, hgq, rfl⟩ := hk
        obtain ⟨g', hg', hX⟩ := dv_ptr hx
        rw [hg] at hg'
        cases hg'
        rw [h0] at hX
        subst hX
        obtain ⟨g2, ys, hg2, h3, h4⟩ := hR.map hbq
        rw [hgq] at hg2
        cases hg2
        obtain ⟨e, he, h5, h6⟩ := findB_ok h4 hfb
        have he' : ys.find? (·.born == s) = some e := by rw [← Array.find?_toList]; exact he
        refine ⟨.tuple #[e.key, e.val], by rw [DV]; exact ⟨_, DVL.cons h5 (DVL.cons h6 DVL.nil), rfl⟩, ?_⟩
        simp [Instr.entry, run_getObj h1 (by simp), lastL_ok hs, MapKept.run_getObj_map h3, he']
      · cases h
    · cases h
  · cases h
theorem OpOK.entry (x : Operand) : OpOK c (.entry x) := fun e m K Γ w ρ dst T pos af gu hR hρ h => by
  have h' : Yes (ovm (xEntry m (ev x e)) m K) := h
  obtain ⟨v, hv, hy⟩ := yes_ovm h'
  obtain ⟨z, h1, h2⟩ := entry_ok (Q := P) hR (hρ x) hv
  exact Out.pure hR hy h1 (by simp [execOp, h2])
end Go.Proofs.YtiekoeapmhhjbaaGreatDoor.X
/- The interpreter is sound, part T: conversions; values that are built; rows that are made. -/
namespace Go.Proofs.YtiekoeapmhhjbaaGreatDoor.X
open Go Go.RowKit
set_option linter.unusedVariables false
set_option linter.unusedSimpArgs false
variable {c : Ctx} {Γ Γ' : Gm} {m m' : M} {w w' : World} {ρ : Operand → Value} {e : En} {Q : Program}
/-- What a value comes to, in a new world. -/
def VOut (c : Ctx) (Γ : Gm) (v : V) (m' : M) (w : World) (s : Sem Value) (Q : Program) : Prop := ∃ x w' Γ', LeG Γ Γ' ∧ Rel c Γ' m' w' ∧ DV c.ν Γ' v x ∧ s.run Q w = .ok x w'
theorem cvI_ok (k q : IntKind) (a : Nat) (ha : a < modN q) : k.wrap (cvI q k a) = k.wrap (q.wrap a) := by
  have e0 : cvI q k a = bi (bi (posI q a) false (Nat.ble (modN q) (modN k))) (a + modN k - modN q) (a % modN k) := rfl
  cases h : posI q a with
  | true =>
    rw [e0, h, bi_t, bi_f, wrap_mod, wrap_pos h]
  | false =>
    have h1 : halfN q ≤ a := by
      rcases Nat.lt_or_ge a (halfN q) with h2 | h2
      · have : posI q a = true := by unfold posI; rw [Nat.blt_eq]; exact h2
        rw [h] at this; cases this
      · exact h2
    have hw : q.wrap a = (a : Int) - modN q := by
      cases q <;> simp only [halfN, modN] at h1 ha ⊢ <;> simp [IntKind.wrap, IntKind.bits, IntKind.signed] <;> omega
    rw [e0, h, bi_f, hw]
    cases h2 : Nat.ble (modN q) (modN k) with
    | true =>
      rw [Nat.ble_eq] at h2
      rw [bi_t]
      refine wrap_congr ?_
      rw [Int.natCast_sub (by omega), Int.natCast_add]
      have e : (a : Int) + (modN k : Int) - (modN q : Int) = (a : Int) - (modN q : Int) + (modN k : Int) := by omega
      rw [e, Int.add_emod_right]
    | false =>
      rw [bi_f, wrap_mod]
      refine wrap_congr ?_
      have hd : (modN k : Int) ∣ (modN q : Int) := by
        cases k <;> cases q <;> first | (exact Int.natCast_dvd_natCast.2 (by decide)) | (exact absurd h2 (by decide))
      rw [Int.sub_emod, Int.emod_eq_zero_of_dvd hd, Int.sub_zero, Int.emod_emod]
theorem tyT_eq {t : TypeId} {y : Ty} (h : tyT Q t = y) : match y with
    | .other => True
    | .int k => Q.underlying t = some (.int k)
    | .str => Q.underlying t = some .string
    | .bytes e => Q.underlying t = some (.slice e) ∧ Q.underlying e = some (.int .u8) := by
  unfold tyT at h
  split at h
  · subst h; assumption
  · subst h; assumption
  · rename_i e hu
    split at h
    · subst h; exact ⟨hu, by assumption⟩
    · subst h; trivial
  · subst h; trivial
theorem bytesL_ok : ∀ {cs : List V} {ys : List Value} {s : List Nat}, DVL c.ν Γ cs ys → bytesL cs = some s → ys = (s.map fun b : Nat => IntKind.u8.wrap (b : Int)).map (Value.int .u8)
  | [], ys, s, h, hb => by
    rw [DVL] at h
    subst h
    cases hb
    rfl
  | v :: r, ys, s, h, hb => by
    rw [DVL] at h
    obtain ⟨y, t, rfl, h1, h2⟩ := h
    cases v <;> first | (cases hb; done) | skip
    rename_i k n
    cases k <;> first | (cases hb; done) | skip
    have hb' : ob (bytesL r) (fun q => some (n :: q)) = some s := hb
    rw [ob_eq] at hb'
    obtain ⟨q, hq, hb'⟩ := hb'
    cases hb'
    rw [dv_int h1, bytesL_ok h2 hq]
    rfl
theorem strOfNums_eq (s : List Nat) : strOfNums (s.map fun b : Nat => IntKind.u8.wrap (b : Int)) = strB s := by
  unfold strOfNums strB
  congr 2
  rw [List.map_map]
  apply List.map_congr_left
  intro b _
  show UInt8.ofNat (IntKind.u8.wrap b).toNat = _
  have : (IntKind.u8.wrap b).toNat = b % 256 := by simp [IntKind.wrap, IntKind.bits, IntKind.signed]; omega
  rw [this]
  exact u8_eq.2 (Nat.mod_mod _ _)
theorem convert_ok (hR : Rel c Γ m w) {src dst : TypeId} {x : V} {X : Value} {v : V} (hx : DV c.ν Γ x X) (h : xConvert Q m src dst x = some (v, m')) : VOut c Γ v m' w (convert src dst X) Q := by
  unfold xConvert at h
  rw [ob_eq] at h
  obtain ⟨u, hu, h⟩ := h
  split at h
  · rename_i k q a ht
    have ht := tyT_eq ht
    rw [bi_eq, Nat.blt_eq] at h
    obtain ⟨ha, h⟩ := h
    cases h
    rw [dv_int hx]
    exact ⟨_, w, Γ, LeG.refl _, hR, mk_int (cvI_ok k q a ha), by simp [convert, run_underlying hu, run_underlying ht, Conv.intToInt]⟩
  · rename_i k q lo hi ht
    have ht := tyT_eq ht
    rw [bi_eq, bi_eq] at h
    obtain ⟨h1, h2, h⟩ := h
    cases h
    obtain ⟨n, hn1, hn2, rfl⟩ := dv_rng hx
    have e1 := wrap_pos (posI_of h1 hn2)
    have e2 := wrap_pos (posI_of h2 hn2)
    refine ⟨.int k n, w, Γ, LeG.refl _, hR, by rw [DV]; exact ⟨n, hn1, hn2, by rw [e2]⟩, ?_⟩
    rw [e1]
    simp [convert, run_underlying hu, run_underlying ht, Conv.intToInt, e2]
  · rename_i k i ht
    have ht := tyT_eq ht
    rw [ob_eq] at h
    obtain ⟨v', hv, h⟩ := h
    cases h
    obtain ⟨n, hn, rfl, rfl, hd⟩ := symConv_ok hx hv
    have e2 : IntKind.i64.wrap (n : Int) = n := wrap64 (by omega)
    exact ⟨_, w, Γ, LeG.refl _, hR, hd, by simp [convert, run_underlying hu, run_underlying ht, Conv.intToInt, e2]⟩
  · rename_i s ht
    have ht := tyT_eq ht
    cases h
    have hX := dv_str hx
    subst hX
    exact ⟨_, w, Γ, LeG.refl _, hR, hx, by simp [convert, run_underlying hu, run_underlying ht]⟩
  · rename_i el s ht
    obtain ⟨ht, hel⟩ := tyT_eq ht
    rw [allo_eq] at h
    cases h
    rw [dv_str hx]
    have hrun := Lib.run_convert_string_bytes (P := Q) w src dst el (strB s) hu ht hel
    have hat := Lib.bytesWorld_at_new w el (strB s)
    have hsz : (Lib.bytesCells w el (strB s)).size = 0 + grownCap w (strB s).size 0 el := by
      have := grownCap_ge w (strB s).size 0 el
      simp only [Lib.bytesCells, Array.size_append, Array.size_map, Array.size_replicate]
      have : (strB s).data.size = (strB s).size := rfl
      omega
    have h1 : Rel c Γ m (Lib.bytesWorld w el (strB s)) := hR.idle rfl rfl rfl (by rw [Lib.bytesWorld_size]; omega) (fun j hj => Lib.bytesWorld_at_old w el (strB s) j hj)
    have h2 := h1.new (g := ⟨w.heap.size, 0, grownCap w (strB s).size 0 el⟩) (b := .cells (len s) (trOf (mapL byteV s)) el true) (by rw [Lib.bytesWorld_size]; exact Nat.lt_succ_self _) (fun k gk hk _ => Nat.ne_of_lt (hR.dom k gk hk).2) (fun q o' hq => Ne.symm (Nat.ne_of_lt (Array.getElem?_eq_some_iff.1 (hR.prot q o' hq).1).1)) ?_
    · refine ⟨_, _, _, LeG.add h1.fresh _, h2, ?_, hrun⟩
      have := mk_slice (c := c) (Γ := addG Γ m.n ⟨w.heap.size, 0, grownCap w (strB s).size 0 el⟩) (o := 0) (l := len s) (p := grownCap w (strB s).size 0 el) (cp := .all 1) (addG_same _ _ _) ⟨by rw [len_eq, ← strB_size]; exact grownCap_ge w _ 0 el, by show 0 + grownCap w (strB s).size 0 el * 1 = grownCap w (strB s).size 0 el; omega⟩
      rw [len_eq, ← strB_size] at this ⊢
      exact this
    · refine ⟨_, _, _, hat, by rw [hsz], ?_, fun h => (by cases h), fun i hi => by simp; omega, fun i hi => ?_⟩
      · show len s ≤ grownCap w (strB s).size 0 el
        rw [len_eq, ← strB_size]
        exact grownCap_ge w _ 0 el
      · rw [len_eq] at hi
        have hd := bytes_ok (c := c) (Γ := Γ) s
        have hl : (mapL byteV s)[i]? = some (byteV s[i]) := by rw [mapL_eq]; simp [hi]
        obtain ⟨y, hy, hv⟩ := hd.get hl
        refine ⟨y, ?_, ?_, ?_⟩
        · show (Lib.bytesCells w el (strB s))[0 + i]? = some y
          rw [Nat.zero_add, Lib.bytesCells, Array.getElem?_append_left (by simp [strB, hi])]
          simpa [strB] using hy
        · obtain ⟨_, _, rfl⟩ := List.mem_map.1 (List.mem_of_getElem? hy)
          rfl
        · rcases trOf_get hl with e1 | e1
          · rw [e1]; exact hv.mono (LeG.add h1.fresh _)
          · rw [e1, DV]; trivial
  · rename_i el b o l cp ht
    obtain ⟨ht, hel⟩ := tyT_eq ht
    rw [bi_eq] at h
    obtain ⟨hsd, h⟩ := h
    rw [Nat.beq_eq] at hsd
    subst hsd
    cases hb : m.get b <;> rw [hb] at h <;> first | (cases h; done) | skip
    rename_i n t T fz
    have h' : bi fz none (one (.slice b o l cp) (m.put b (.cells n t T true))) = some (v, m') := h
    rw [bi_eq'] at h'
    obtain ⟨rfl, h'⟩ := h'
    cases h'
    obtain ⟨g, hg, hk⟩ := hR.hold b (by rw [hb]; simp)
    rw [hb] at hk
    obtain ⟨A, T', fr, hA, hsz, hnN, hfz, hfr, hcs⟩ := hk
    cases hfz rfl
    have hx0 := hx
    obtain ⟨g', p, hg', hcap, rfl⟩ := dv_slice hx
    rw [hg] at hg'
    cases hg'
    have hsh : w.shape? g.blk = some (T', A.size) := by simp [World.shape?, hA]
    have hlt : g.blk < w.heap.size := (Array.getElem?_eq_some_iff.1 hA).1
    have hfrz : w.freeze ⟨g.blk, A.size, none⟩ 1 = { w with heap := w.heap.setIfInBounds g.blk (.cells A T' (A.size, A.size + 1)) } := by
      unfold World.freeze
      rw [if_neg (by decide)]
      congr 1
      apply Array.ext_getElem?
      intro i
      rw [Array.getElem?_modify, Array.getElem?_setIfInBounds]
      by_cases hi : g.blk = i
      · subst hi
        rw [if_pos rfl, if_pos rfl, if_pos hlt, hA]
        rfl
      · rw [if_neg hi, if_neg hi]
    obtain ⟨h5, h6⟩ := MapKept.heap_set (o' := .cells A T' (A.size, A.size + 1)) hA
    refine ⟨_, { w with heap := w.heap.setIfInBounds g.blk (.cells A T' (A.size, A.size + 1)) }, Γ, LeG.refl _, hR.put (b := .cells n t T true) hg (by rw [hb]; exact ownB_cells) rfl rfl rfl (by simp) h6 ⟨A, T', _, h5, hsz, hnN, fun h => (by cases h), fun i hi => by simp; omega, hcs⟩, hx0, ?_⟩
    rw [← hfrz]
    simp [convert, run_underlying ht, run_underlying hel, markStringish, hsh]
  · rename_i x _ _ ht hneg
    have ht := tyT_eq ht
    split at h
    · rename_i el hs
      obtain ⟨hs, hel⟩ := tyT_eq hs
      rw [ob_eq] at h
      obtain ⟨cs, hcs, h⟩ := h
      rw [ob_eq] at h
      obtain ⟨s, hs2, h⟩ := h
      cases h
      refine ⟨.string (strB s), w, Γ, LeG.refl _, hR, mk_str rfl, ?_⟩
      cases x <;> first | (cases hcs; done) | skip
      · exact (hneg _ rfl).elim
      · rename_i b o l cp
        obtain ⟨g', ys, hg', h1, h2, h3, h4⟩ := hR.rd hcs
        obtain ⟨g, p, hg, hcap, rfl⟩ := dv_slice hx
        rw [hg] at hg'
        cases Option.some.inj hg'
        have hy := bytesL_ok h1 hs2
        have hlen : s.length = l := by
          have := congrArg List.length hy
          have h3' : ys.length = l * 1 := h3
          simp at this
          omega
        have := run_convert_bytes_arg (P := Q) w src el hs hel g'.blk (g'.sh + o) l p (s.map fun b : Nat => IntKind.u8.wrap (b : Int)) (by simpa using hlen) (fun i hi => ?_) dst ht
        · rw [strOfNums_eq] at this
          exact this
        · refine h4 i _ ?_
          rw [hy]
          have hi2 : i < s.length := by omega
          simp [hi2]
      · cases hcs
        cases hs2
        rw [dv_nilS hx]
        exact run_convert_bytes_nil w src el hs hel 0 0 dst ht
      · cases hcs
        cases hs2
        obtain ⟨a, p, _, rfl⟩ := dv_emp hx
        rw [run_convert_bytes_string w src dst el _ 0 p hs hel ht]
        simp [Conv.bytesToString, loadCells, loadCellsFrom]
        rfl
    · cases h
  · cases h
theorem OpOK.convert (s d : TypeId) (x : Operand) : OpOK c (.convert s d x) := fun e m K Γ w ρ dst T pos af gu hR hρ h => by
  have e1 : cOp (.convert s d x) = ⟨fun e m K => orm (xConvert P m s d (ev x e)) K⟩ := by kernel_rfl
  rw [e1] at h
  dsimp only at h
  obtain ⟨v, m', hv, hy⟩ := yes_orm h
  obtain ⟨z, w', Γ', h1, h2, h3, h4⟩ := convert_ok hR (hρ x) hv
  exact ⟨v, m', Γ', z, w', h1, h2, h3, hy, .inl (by simp [execOp, h4])⟩
/-! ### what is built -/
theorem foldl_seg : ∀ (ys : List Value) (k off : Nat) (C : Array Value), off + k + ys.length ≤ C.size →
    let D := (ys.zipIdx k).foldl (fun cs (p : Value × Nat) => cs.setIfInBounds (off + p.2) p.1) C
    D.size = C.size ∧ ∀ i, D[i]? = if off + k ≤ i ∧ i < off + k + ys.length then ys[i - (off + k)]? else C[i]?
  | [], k, off, C, h => by
    refine ⟨rfl, fun i => ?_⟩
    rw [if_neg (by simp)]
    rfl
  | y :: r, k, off, C, h => by
    have h' : off + (k + 1) + r.length ≤ (C.setIfInBounds (off + k) y).size := by simp at h ⊢; omega
    obtain ⟨h1, h2⟩ := foldl_seg r (k + 1) off (C.setIfInBounds (off + k) y) h'
    simp only [List.length_cons] at h ⊢
    refine ⟨by rw [List.zipIdx_cons, List.foldl_cons]; simpa using h1, fun i => ?_⟩
    rw [List.zipIdx_cons, List.foldl_cons]
    refine (h2 i).trans ?_
    by_cases hi : off + k = i
    · subst hi
      have hlt : off + k < C.size := by omega
      rw [if_neg (by omega), if_pos (by omega), Nat.sub_self, Array.getElem?_setIfInBounds_self_of_lt hlt]
      rfl
    · by_cases hr : off + (k + 1) ≤ i ∧ i < off + (k + 1) + r.length
      · rw [if_pos hr, if_pos (by omega), show i - (off + k) = (i - (off + (k + 1))) + 1 from by omega, List.getElem?_cons_succ]
      · rw [if_neg hr, if_neg (by omega), Array.getElem?_setIfInBounds_ne hi]
/-- Parts are filled in. -/
theorem fill_ok {n : Nat} {pl : Nat → Option (Nat × Nat)} {pl' : Nat → Option (Nat × Nat)} (hpl : ∀ i q, pl i = some q → pl' i = some q) : ∀ {ps : List (Nat × V)} {qs : List (Nat × Value)} {t t' : Cs} {C : Array Value},
    qs.length = ps.length → (∀ (j i : Nat) (v : V), ps[j]? = some (i, v) → ∃ x, qs[j]? = some (i, x) ∧ DV c.ν Γ v x) → C.size = n → Cells c.ν Γ n t 0 C → fillL n pl ps t = some t' →
    ∃ D, Instr.fill pl' C qs = some D ∧ D.size = n ∧ Cells c.ν Γ n t' 0 D
  | [], qs, t, t', C, hl, hq, hs, hC, h => by
    have : qs = [] := List.eq_nil_of_length_eq_zero hl
    subst this
    cases h
    exact ⟨C, rfl, hs, hC⟩
  | (i, v) :: ps, qs, t, t', C, hl, hq, hs, hC, h => by
    cases qs with
    | nil => simp at hl
    | cons q qs =>
      obtain ⟨x, hx, hv⟩ := hq 0 i v rfl
      simp at hx
      subst hx
      have h' : ob (pl i) (fun q => ob (cellsV v) fun vs => bi (Nat.beq (len vs) q.2) (bi (Nat.ble (Nat.add q.1 q.2) n) (fillL n pl ps (wrT vs t q.1)) none) none) = some t' := h
      rw [ob_eq] at h'
      obtain ⟨⟨o, z⟩, hp, h'⟩ := h'
      rw [ob_eq] at h'
      obtain ⟨vs, hvs, h'⟩ := h'
      rw [bi_eq, bi_eq] at h'
      obtain ⟨h1, h2, h'⟩ := h'
      rw [Nat.beq_eq, len_eq] at h1
      rw [Nat.ble_eq] at h2
      dsimp only at h1
      have h2 : o + z ≤ n := h2
      obtain ⟨ys, hys, hone, hcells⟩ := cellsV_ok hvs hv
      have hlen := hys.length
      obtain ⟨hD1, hD2⟩ := foldl_seg ys 0 o C (by omega)
      have hD1' : ((ys.zipIdx 0).foldl (fun cs (p : Value × Nat) => cs.setIfInBounds (o + p.2) p.1) C).size = n := by rw [hD1, hs]
      obtain ⟨D, h3, h4, h5⟩ := fill_ok hpl (ps := ps) (qs := qs) (C := (ys.zipIdx 0).foldl (fun cs (p : Value × Nat) => cs.setIfInBounds (o + p.2) p.1) C) (by simpa using hl) (fun j i2 v2 hj => by
        have := hq (j + 1) i2 v2 (by simpa using hj)
        simpa using this) hD1' (fun k hk => by
          rw [Nat.zero_add, hD2]
          by_cases hko : o + 0 ≤ k ∧ k < o + 0 + ys.length
          · rw [if_pos hko]
            have hj : k - (o + 0) < vs.length := by omega
            obtain ⟨y, hy, hvy⟩ := hys.get (List.getElem?_eq_getElem hj)
            refine ⟨y, hy, hone y (List.mem_of_getElem? hy), ?_⟩
            have := (wrT_get vs t o k).2 (k - (o + 0)) _ (List.getElem?_eq_getElem hj)
            rw [show o + (k - (o + 0)) = k from by omega] at this
            rcases this with e1 | e1
            · rw [e1]; exact hvy
            · rw [e1, DV]; trivial
          · rw [if_neg hko, (wrT_get vs t o k).1 (by omega)]
            simpa using hC k hk) h'
      refine ⟨D, ?_, h4, h5⟩
      have hz : x.cells.size = z := by rw [hcells]; simp; omega
      simp only [Instr.fill, hpl i _ hp]
      rw [if_neg (by simp [hz]; omega), hcells]
      simpa using h3
theorem evp_ok (hρ : ∀ x, DV c.ν Γ (ev x e) (ρ x)) : ∀ l : List (Nat × Operand), (l.map fun p => (p.1, ρ p.2)).length = (evp e l).length ∧ ∀ (j i : Nat) (v : V), (evp e l)[j]? = some (i, v) → ∃ x, (l.map fun p => (p.1, ρ p.2))[j]? = some (i, x) ∧ DV c.ν Γ v x
  | [] => ⟨rfl, fun j i v h => by simp [evp, lrec] at h⟩
  | p :: r => by
    obtain ⟨h1, h2⟩ := evp_ok hρ r
    have e1 : evp e (p :: r) = (p.1, ev p.2 e) :: evp e r := rfl
    rw [e1]
    refine ⟨by simpa using h1, fun j i v h => ?_⟩
    cases j with
    | zero => simp at h; obtain ⟨rfl, rfl⟩ := h; exact ⟨_, rfl, hρ _⟩
    | succ j => simp at h; simpa using h2 j i v h
theorem cells_of_list {vs : List V} {ys : List Value} (h : DVL c.ν Γ vs ys) (h1 : ∀ y ∈ ys, y.oneCell' = true) : Cells c.ν Γ vs.length (trOf vs) 0 ys.toArray := fun i hi => by
  obtain ⟨y, h2, h3⟩ := h.get (List.getElem?_eq_getElem hi)
  refine ⟨y, by simpa using h2, h1 y (List.mem_of_getElem? h2), ?_⟩
  rcases trOf_get (List.getElem?_eq_getElem hi) with e1 | e1
  · rw [e1]; exact h3
  · rw [e1, DV]; trivial
theorem rdT_cells {t : Cs} {C : Array Value} : ∀ (n o : Nat), (∀ i, o ≤ i → i < o + n → ∃ y, C[i]? = some y ∧ y.oneCell' = true ∧ DV c.ν Γ (gC i t) y) → C.size = o + n → DVL c.ν Γ (rdT t n o) (C.toList.drop o) ∧ ∀ y ∈ C.toList.drop o, y.oneCell' = true
  | 0, o, _, hs => by
    have : C.toList.drop o = [] := List.drop_eq_nil_of_le (by simp; omega)
    rw [this]
    exact ⟨DVL.nil, fun _ h => (by cases h)⟩
  | n + 1, o, h, hs => by
    obtain ⟨y, h1, h2, h3⟩ := h o (Nat.le_refl _) (by omega)
    obtain ⟨h4, h5⟩ := rdT_cells (t := t) (C := C) n (o + 1) (fun i hi hi2 => h i (by omega) (by omega)) (by omega)
    have hd : C.toList.drop o = y :: C.toList.drop (o + 1) := by
      have hlt : o < C.toList.length := by simp; omega
      rw [List.drop_eq_getElem_cons hlt]
      congr 1
      have : C.toList[o]? = some y := by simpa using h1
      rw [List.getElem?_eq_getElem hlt] at this
      exact Option.some.inj this
    rw [hd]
    refine ⟨DVL.cons h3 h4, fun z hz => ?_⟩
    rcases List.mem_cons.1 hz with rfl | hz
    · exact h2
    · exact h5 z hz
theorem mapM_sizes : ∀ (fs : List Field), allSz Q fs = true → ∀ w, (fs.mapM fun f => (do pure (f.offset, ← sizeOf f.type) : Sem (Nat × Nat))).run Q w = .ok (fs.map fun f => (f.offset, szI Q f.type)) w
  | [], _, w => rfl
  | f :: r, h, w => by
    have h' : bi (isSome (szT Q f.type)) (allSz Q r) false = true := h
    cases hs : szT Q f.type with
    | none => rw [hs] at h'; cases h'
    | some z =>
      rw [hs] at h'
      have h2 : allSz Q r = true := h'
      have hz := szT_eq hs
      have hzi := info_size hz
      have ih := mapM_sizes r h2 w
      simp only [bind_pure_comp] at ih
      rw [List.mapM_cons, Sem.run_bind, Sem.run_bind, Sx.run_sizeOf hz]
      simp [ih, hzi]
theorem build_ok {t : TypeId} {ps : List (Nat × V)} {qs : List (Nat × Value)} {v : V} (hl : qs.length = ps.length) (hq : ∀ (j i : Nat) (v : V), ps[j]? = some (i, v) → ∃ x, qs[j]? = some (i, x) ∧ DV c.ν Γ v x) (h : xBuild Q t ps = some v) :
    ∃ z, DV c.ν Γ v z ∧ ∀ w, (Instr.build t qs.toArray).run Q w = .ok z w := by
  unfold xBuild at h
  rw [ob_eq] at h
  obtain ⟨zs, hzs, h⟩ := h
  rw [ob_eq] at h
  obtain ⟨tr, htr, h⟩ := h
  cases h
  obtain ⟨i, zv, ys, hi, hz, h1, h2, h3⟩ := zeroT_ok2 (c := c) (Γ := Γ) hzs
  have hlen := h1.length
  rw [len_eq] at htr ⊢
  have hC := cells_of_list h1 h2
  have key : ∀ D : Array Value, D.size = zs.length → Cells c.ν Γ zs.length tr 0 D → DV c.ν Γ (.agg (rdT tr zs.length 0)) (.agg D) := fun D hD hc => by
    obtain ⟨h4, h5⟩ := rdT_cells (c := c) (Γ := Γ) (t := tr) (C := D) zs.length 0 (fun i _ hi => by simpa using hc i (by omega)) (by omega)
    rw [DV]
    exact ⟨D.toList, by simpa using h4, by simpa using h5, by simp⟩
  unfold fillT at htr
  split at htr
  · rename_i fs hu
    rw [bi_eq] at htr
    obtain ⟨hall, htr⟩ := htr
    obtain ⟨D, h4, h5, h6⟩ := fill_ok (pl' := fun i => ((fs.toList.map fun f => (f.offset, szI Q f.type)).toArray[i]?)) (fun i q hq => by
      rw [ob_eq] at hq
      obtain ⟨f, hf, hq⟩ := hq
      rw [ob_eq] at hq
      obtain ⟨s, hs, hq⟩ := hq
      cases hq
      have hf' : fs[i]? = some f := by simpa using hf
      simp [hf', info_size (szT_eq hs)]) hl hq (by simp; omega) hC htr
    refine ⟨_, key D h5 h6, fun w => ?_⟩
    have hmap : (fs.mapM fun f => (do pure (f.offset, ← sizeOf f.type) : Sem (Nat × Nat))).run Q w = .ok (fs.toList.map fun f => (f.offset, szI Q f.type)).toArray w := by
      rw [Array.mapM_eq_mapM_toList]
      have := mapM_sizes fs.toList hall w
      simp only [bind_pure_comp] at this ⊢
      simp [this]
    simp only [bind_pure_comp] at hmap
    simp [Instr.build, zeroValue, typeInfo, hi, hz, run_underlying hu, hmap, h3]
    simp at h4
    rw [h4]
    rfl
  · rename_i n el hu
    rw [ob_eq] at htr
    obtain ⟨s, hs, htr⟩ := htr
    obtain ⟨D, h4, h5, h6⟩ := fill_ok (pl' := fun i => some (i * s, s)) (fun i q hq => hq) hl hq (by simp; omega) hC htr
    refine ⟨_, key D h5 h6, fun w => ?_⟩
    simp [Instr.build, zeroValue, typeInfo, hi, hz, run_underlying hu, Sx.run_sizeOf (szT_eq hs), h3, h4]
  · cases htr
theorem OpOK.build (t : TypeId) (ps : Array (Nat × Operand)) : OpOK c (.build t ps) := fun e m K Γ w ρ dst T pos af gu hR hρ h => by
  have e1 : cOp (.build t ps) = ⟨fun e m K => ovm (xBuild P t (evp e ps.toList)) m K⟩ := by kernel_rfl
  rw [e1] at h
  dsimp only at h
  obtain ⟨v, hv, hy⟩ := yes_ovm h
  obtain ⟨h1, h2⟩ := evp_ok hρ ps.toList
  obtain ⟨z, h3, h4⟩ := build_ok h1 h2 hv
  have h5 : (ps.toList.map fun p => (p.1, ρ p.2)).toArray = ps.map fun (i, x) => (i, ρ x) := by apply Array.ext'; simp
  rw [h5] at h4
  exact Out.pure hR hy h3 (by simp only [execOp]; simp [h4])
end Go.Proofs.YtiekoeapmhhjbaaGreatDoor.X
