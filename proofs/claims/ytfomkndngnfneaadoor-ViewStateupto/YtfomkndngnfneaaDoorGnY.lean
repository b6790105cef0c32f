/- copy, append of zeros, slices.overlaps: rows as blocks. -/
import Derived.Test.YtfomkndngnfneaaDoorGnT
import Derived.Lib.AppendZerosOnto
import Derived.Lib.Overlaps
import Derived.Laws.CopyRow
import Derived.Laws.Externs
namespace Go.Proofs.YtfomkndngnfneaaDoor.Sx
open Go Go.RowKit
set_option linter.unusedVariables false
set_option linter.unusedSimpArgs false
section
variable {P : Program} {n : Fm} {Qf : Exit → Act → World → Prop} {k : List It} {e : Env} {w w' w0 : World} {H : List Res} {ops : Array Oper} {rest : List Oper} {T : TypeId} {pos : String} {af : Array Edge} {d : Nat}
abbrev vu64 (x : Int) : Value := .int .u64 x
abbrev wrq (x : Int) : Int := IntKind.u64.wrap x
variable {x y : Operand} {xt yt : TypeId}
theorem Ex.cto64 {src dst : TypeId} {sd : TypeDesc} {a : Int} (hx : ev e x = some (vi a)) (hs : P.underlying src = some sd) (ht : P.underlying dst = some (.int .u64)) : Ex P e ⟨some d, .convert src dst x, T, pos, af, none⟩ (vu64 (wrq a)) := Ex.conv hx hs ht
theorem Ex.cof64 {src dst : TypeId} {sd : TypeDesc} {a : Int} (hx : ev e x = some (vu64 a)) (hs : P.underlying src = some sd) (ht : P.underlying dst = some (.int .i64)) : Ex P e ⟨some d, .convert src dst x, T, pos, af, none⟩ (vi (wr a)) := Ex.conv hx hs ht
theorem run_copyK (w : World) (dT sT ty elem : TypeId) (g o dLen dCap : Nat) (a : Addr) (sLen sCap : Nat) (cur : Array Value) (t : TypeId) (cs : List Value) (m sz : Nat)
    (hu : P.underlying dT = some (.slice elem)) (hs : (P.info? elem).map (·.size) = some sz)
    (hg : w.heap[g]? = some (.cells cur t (0, 0))) (hn : Nat.min sLen dLen = m) (hcl : cs.length = m * sz)
    (hsrc : ∀ j v, cs[j]? = some v → w.cell? (a.add j) = some v) (hfit : o + cs.length ≤ cur.size) (h1 : ∀ v ∈ cs, v.oneCell' = true) :
    (Builtin.copy_ #[dT, sT] ty #[.slice (some ⟨g, o, none⟩) dLen dCap, .slice (some a) sLen sCap]).run P w =
      .ok (.int .i64 m) (w.setRow g (cur.toList.take o ++ cs ++ cur.toList.drop (o + cs.length)).toArray) := by
  have hl := run_loadCells_list (P := P) w a cs hsrc
  have hst := run_storeCells_at P g o t cs 0 cur w hg (by simpa using hfit) h1
  cases hq : P.info? elem with
  | none => simp [hq] at hs
  | some i =>
    have hi : i.size = sz := by simpa [hq] using hs
    simp [Builtin.copy_, run_underlying hu, Builtin.lenOf, Builtin.firstCells, sizeOf, typeInfo, hq, hi, hn, ← hcl, hl, hst, goInt]
theorem Ex.cap {args : Array Operand} {tys : Array TypeId} {x : Operand} {ad : Option Addr} {l c : Nat} {t et : TypeId} (ha : args = #[x]) (hx : ev e x = some (.slice ad l c)) (hty : tys = #[t]) (ht : P.underlying t = some (.slice et)) : Ex P e ⟨some d, .call ⟨.builtin .cap, args, tys⟩, T, pos, af, none⟩ (.int .i64 c) := by
  intro c hc w
  subst ha hty
  simp [execOp, hc _ _ hx, resolve, invoke, builtin, Builtin.cap_, run_underlying ht, goInt]
/-- copy(x, y), x in a block that is known. -/
theorem Ops.copyB {args : Array Operand} {tys : Array TypeId} {x y : Operand} {t u E el g o dLen dCap sLen sCap m sz : Nat} {a : Addr} {cs news : List Value} (q : Nat) (hst : Ht w0 H w) (hi : H[q]? = some (blk g cs E)) (ha : args = #[x, y]) (hty : tys = #[t, u])
    (hx : ev e x = some (.slice (some ⟨g, o, none⟩) dLen dCap)) (hy : ev e y = some (.slice (some a) sLen sCap)) (ht : P.underlying t = some (.slice el)) (hs : (P.info? el).map (·.size) = some sz) (hm : Nat.min sLen dLen = m) (hcl : news.length = m * sz)
    (hsrc : ∀ j v, news[j]? = some v → w.cell? (a.add j) = some v) (hfit : o + news.length ≤ cs.length) (h1 : ∀ v ∈ news, v.oneCell' = true) (hn : Nat.blt d n.size = true)
    (h : ∀ w', Ht w0 (H.set q (blk g (cs.take o ++ news ++ cs.drop (o + news.length)) E)) w' → Ops P n Qf k ops rest ((d, .int .i64 m) :: e) w') : Ops P n Qf k ops (⟨some d, .call ⟨.builtin .copy, args, tys⟩, T, pos, af, none⟩ :: rest) e w := by
  subst ha hty
  have hg : w.heap[g]? = some (.cells cs.toArray E (0, 0)) := hst.get hi
  have hr := run_copyK (P := P) w t u T el g o dLen dCap a sLen sCap cs.toArray E news m sz ht hs hg hm hcl hsrc (by simpa using hfit) h1
  have hw : Ht w0 (H.set q (blk g (cs.take o ++ news ++ cs.drop (o + news.length)) E)) (w.setRow g (cs.take o ++ news ++ cs.drop (o + news.length)).toArray) := by
    refine hst.upd q hi (setRow_fr w g _) ?_ (fun k hk => ⟨.inl hk, ?_⟩)
    · show (w.setRow g _).heap[g]? = _
      rw [setRow_heap w g cs.toArray _ E (0, 0) hg]
    · have : k < w.heap.size := hst.lt hi hk
      simpa using this
  refine Ops.val (w' := w.setRow g (cs.take o ++ news ++ cs.drop (o + news.length)).toArray) rfl rfl hn (fun c hc => ?_) (h _ hw)
  simp [execOp, hc _ _ hx, hc _ _ hy, resolve, invoke, builtin, hr]
/-- A row that has cells, as its block. -/
theorem St.toBlk {E sz c l : Nat} {A : Option Addr} {dd : List Value} (hst : Ht w0 H w) (q : Nat) (hi : H[q]? = some (orow E sz (.slice A l c) l dd)) (hpos : 0 < l) :
    ∃ g o cs, A = some ⟨g, o, none⟩ ∧ l ≤ c ∧ c ≤ maxLen ∧ o + c * sz ≤ cs.length ∧ (cs.drop o).take (l * sz) = dd ∧ dd.length = l * sz ∧ (∀ u ∈ dd, u.oneCell' = true) ∧ Ht w0 (H.set q (blk g cs E)) w := by
  obtain ⟨h1, h2, h3⟩ := hst.get hi
  rcases h3 with ⟨_, h0⟩ | ⟨g, o, cap, cur, hv, hg, hn, hm, ho, ht⟩
  · omega
  · cases hv
    refine ⟨g, o, cur.toList, rfl, hn, hm, by simpa using ho, ht, h1, h2, ?_⟩
    have hlt : g < w.heap.size := hst.lt hi rfl
    exact hst.upd q hi (Fr.refl _ _) (by show hp w g = _; simpa using hg) (fun k hk => by
      have hk' : k = g := hk
      subst hk'
      exact ⟨.inl rfl, hlt⟩)
/-- A block as a row. -/
theorem St.toRow {E sz c l g o : Nat} {cs dd : List Value} (hst : Ht w0 H w) (q : Nat) (hi : H[q]? = some (blk g cs E)) (hl : l ≤ c) (hc : c ≤ maxLen) (ho : o + c * sz ≤ cs.length) (hd : (cs.drop o).take (l * sz) = dd) (hdl : dd.length = l * sz) (h1 : ∀ u ∈ dd, u.oneCell' = true) :
    Ht w0 (H.set q (orow E sz (.slice (some ⟨g, o, none⟩) l c) l dd)) w := by
  have hg : w.heap[g]? = some (.cells cs.toArray E (0, 0)) := hst.get hi
  have hlt : g < w.heap.size := hst.lt hi rfl
  refine hst.upd q hi (Fr.refl _ _) ⟨hdl, h1, .inr ⟨g, o, c, cs.toArray, rfl, hg, hl, hc, by simpa using ho, by simpa using hd⟩⟩ (fun k hk => ?_)
  have hk' : g = k := Option.some.inj hk
  subst hk'
  exact ⟨.inl rfl, hlt⟩
theorem lay3 (a v D z : List Value) : (((a ++ z).take a.length ++ v ++ (a ++ z).drop (a.length + v.length)).take (a.length + v.length) ++ D ++ ((a ++ z).take a.length ++ v ++ (a ++ z).drop (a.length + v.length)).drop (a.length + v.length + D.length)).take (a.length + v.length + D.length) = a ++ v ++ D := by
  have e1 : (a ++ z).take a.length = a := List.take_left
  rw [e1]
  have e2 : ∀ r, (a ++ v ++ r).take (a.length + v.length) = a ++ v := fun r => by rw [← List.length_append]; exact List.take_left
  rw [e2]
  have e3 : ∀ r, (a ++ v ++ D ++ r).take (a.length + v.length + D.length) = a ++ v ++ D := fun r => by rw [← List.length_append, ← List.length_append]; exact List.take_left
  exact e3 _
theorem lay4 {cs a v D : List Value} {o s k : Nat} (ha : (cs.drop o).take s = a) (hal : a.length = s) (hv : v.length = k) (hl : o + s + k ≤ cs.length) :
    (((cs.take (o + s + k) ++ D ++ cs.drop (o + s + k + D.length)).take (o + s) ++ v ++ (cs.take (o + s + k) ++ D ++ cs.drop (o + s + k + D.length)).drop (o + s + v.length)).drop o).take (s + k + D.length) = a ++ v ++ D := by
  have hlt : (cs.take (o + s + k)).length = o + s + k := by rw [List.length_take]; omega
  have h1 : (cs.take (o + s + k) ++ D ++ cs.drop (o + s + k + D.length)).take (o + s) = cs.take (o + s) := by
    rw [List.append_assoc, List.take_append_of_le_length (by omega), List.take_take]
    congr 1
    omega
  have h2 : (cs.take (o + s + k) ++ D ++ cs.drop (o + s + k + D.length)).drop (o + s + v.length) = D ++ cs.drop (o + s + k + D.length) := by
    rw [List.append_assoc, hv]
    exact List.drop_left' hlt
  rw [h1, h2]
  have hlt2 : (cs.take (o + s)).length = o + s := by rw [List.length_take]; omega
  rw [List.append_assoc, List.drop_append_of_le_length (by omega), List.drop_take, show o + s - o = s by omega, ha, ← List.append_assoc, ← List.append_assoc]
  exact List.take_left' (by simp only [List.length_append]; omega)
/-- append(x, make(..)...), where there is no room. -/
theorem Ops.appZ {args : Array Operand} {tys : Array TypeId} {x y : Operand} {t tn el c l m by_ : Nat} {sz : Nat} {z : Value} {g o : Nat} {olds : List Value} (hst : Ht w0 H w) (ha : args = #[x, y]) (hty : tys = #[t, tn])
    (hx : ev e x = some (.slice (some ⟨g, o, none⟩) l c)) (hy : ev e y = some (.int .i64 (m : Int))) (ht : P.underlying t = some (.slice el)) (htn : P.underlying tn = some (.int .i64)) (hinfo : (P.info? el).map (fun i => (i.zero, i.size, i.bytes)) = some (some z, sz, by_)) (hz : z.cells.size = sz) (hsz : 0 < sz) (hb : 0 < by_)
    (hol : olds.length = l * sz) (hsrc : ∀ j v, olds[j]? = some v → w.cell? ((⟨g, o, none⟩ : Addr).add j) = some v) (h0 : 0 < m) (hg : c < l + m) (hbig : (l + m) * by_ ≤ 140737488355328) (hn : Nat.blt d n.size = true)
    (h : ∀ g' c' zs w', l + m ≤ c' → c' ≤ maxLen → zs.length + olds.length = c' * sz → Ht w0 (H ++ [blk g' (olds ++ zs) el]) w' → Ops P n Qf k ops rest ((d, .slice (some ⟨g', 0, none⟩) (l + m) c') :: e) w') : Ops P n Qf k ops (⟨some d, .call ⟨.builtin .append, args, tys⟩, T, pos, af, none⟩ :: rest) e w := by
  subst ha hty
  obtain ⟨i, hi, hzz, hsize, hby⟩ := info_parts hinfo
  subst hsize hby
  have h63 : l + m ≤ maxLen := by
    have : l + m ≤ (l + m) * i.bytes := Nat.le_mul_of_pos_right _ hb
    simp only [maxLen]; omega
  have hmb : m * i.bytes ≤ (l + m) * i.bytes := Nat.mul_le_mul_right _ (by omega)
  have hold := run_firstCells_some (P := P) w.drew i.size l ⟨g, o, none⟩ l c olds hol hsrc
  have hr := Lib.run_append_grow_zeros (P := P) w t tn T el i z .i64 .i64 ht htn hi hzz (some ⟨g, o, none⟩) l c olds hold m h0 hsz hg (by simp only [maxLen] at h63; omega) (by omega) (growslice_fits (by omega) hbig)
  have hge := grownCap_ge w (l + m) c el
  have hcm : grownCap w (l + m) c el ≤ maxLen := grownCap_le_maxLen w (l + m) c el h63
  generalize grownCap w (l + m) c el = c' at hr hge hcm
  have hzs : ((Builtin.zeroCells z.cells m).toList ++ (Builtin.zeroCells z.cells (c' - (l + m))).toList).length + olds.length = c' * i.size := by
    simp only [List.length_append, Array.length_toList, size_zeroCells, hz, hol, ← Nat.add_mul]
    congr 1
    omega
  refine Ops.val (w' := w.drew.alloc (.cells (olds.toArray ++ Builtin.zeroCells z.cells m ++ Builtin.zeroCells z.cells (c' - (l + m))) el)) rfl rfl hn (fun cc hc => ?_) (h w.heap.size c' _ _ hge hcm hzs ?_)
  · simp [execOp, hc _ _ hx, hc _ _ hy, resolve, invoke, builtin, hr]
  · have h1 := (hst.idle (drew_fr w)).new (olds ++ ((Builtin.zeroCells z.cells m).toList ++ (Builtin.zeroCells z.cells (c' - (l + m))).toList)) el
    have e1 : (olds ++ ((Builtin.zeroCells z.cells m).toList ++ (Builtin.zeroCells z.cells (c' - (l + m))).toList)).toArray = olds.toArray ++ Builtin.zeroCells z.cells m ++ Builtin.zeroCells z.cells (c' - (l + m)) := by
      apply Array.ext'
      simp
    rw [e1] at h1
    exact h1
/-- A call of what has no code, and answers with a value. -/
theorem Ops.callX {args : Array Operand} {tys : Array TypeId} {cal : Operand} {f : FuncId} {vs : List Value} {v : Value} (hcal : ev e cal = some (.func (.func f) #[] #[])) (hargs : evl e args.toList = some vs) (hr : (callFunc f vs.toArray).run P w = .ok (.value v) w) (hn : Nat.blt d n.size = true)
    (h : Ops P n Qf k ops rest ((d, v) :: e) w) : Ops P n Qf k ops (⟨some d, .call ⟨.value cal, args, tys⟩, T, pos, af, none⟩ :: rest) e w := by
  refine Ops.val rfl rfl hn (fun c hc => ?_) h
  have h2 : args.map c = vs.toArray := by
    have := evl_spec hc hargs
    rw [← Array.toList_map] at this
    rw [← this]
  simp only [execOp, resolve, hc _ _ hcal, h2]
  simp [Deferred.ofValue, invoke, hr]
end
end Go.Proofs.YtfomkndngnfneaaDoor.Sx
