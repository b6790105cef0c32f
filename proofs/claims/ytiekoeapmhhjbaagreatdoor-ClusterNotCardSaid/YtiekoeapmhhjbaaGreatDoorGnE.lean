/- Part E of the second layer: pieces of strings; a row of one's own that is cut, added to in its place, and swept behind its end. -/
import Derived.Test.YtiekoeapmhhjbaaGreatDoorGnD
import Derived.Laws.Cover3
namespace Go.Proofs.YtiekoeapmhhjbaaGreatDoor.Sx
open Go Go.RowKit
set_option linter.unusedVariables false
set_option linter.unusedSimpArgs false
section
variable {P : Program} {n : Fm} {Qf : Exit → Act → World → Prop} {k : List It} {e : Env} {w w' w0 : World} {H : List Res} {R R0 : Res} {ζ ζ' : Zp} {ops : Array Oper} {rest : List Oper} {T : TypeId} {pos : String} {af : Array Edge} {d : Nat} {α : Type}
/-- A piece of a string. -/
theorem Ex.cutT {xt : TypeId} {x a b : Operand} {s t : Str} {i j : Int} {k1 k2 : IntKind} (hcut : cutI s i j = some t) (hx : ev e x = some (vs s)) (ht : P.underlying xt = some .string) (hlo : ev e a = some (.int k1 i)) (hhi : ev e b = some (.int k2 j)) :
    Ex P e ⟨some d, .slice xt x (some a) (some b) none, T, pos, af, none⟩ (vs t) := fun c hc w => by
  obtain ⟨h0, h1, h2, rfl⟩ := cutI_some hcut
  have hsz : (⟨s.toArray⟩ : ByteArray).size = s.length := by simp [ByteArray.size]
  have h := run_slice_string (P := P) w xt ⟨s.toArray⟩ k1 k2 i j ht h0 h1 (by rw [hsz]; exact h2)
  have hex : (⟨s.toArray⟩ : ByteArray).extract i.toNat j.toNat = ⟨((s.take j.toNat).drop i.toNat).toArray⟩ := by
    apply ByteArray.ext
    rw [ByteArray.data_extract]
    simp [List.drop_take]
  rw [hex] at h
  simp only [execOp, hc _ _ hx, Option.map_some, hc _ _ hlo, hc _ _ hhi, Option.map_none, vs]
  simp [run_sliceAt_string w xt _ _ _ _ ht, h]
theorem map_add0 (A : Option Addr) : A.map (fun x => x.add 0) = A := by
  cases A with
  | none => rfl
  | some a => simp [Addr.add]
/-- The front of a row. -/
theorem Ex.preA {A : Option Addr} {c l z : Nat} {xs ys : List α} {xt et : TypeId} {x b : Operand} {lo : Option Operand} {j : Int} (hl : l ≤ c) (hsub : cutI xs 0 j = some ys) (hl0 : xs.length = l) (hx : ev e x = some (.slice A l c)) (ht : P.underlying xt = some (.slice et)) (hz : (P.info? et).map (·.size) = some z)
    (hlo : match lo with | none => (0 : Int) = 0 | some o => ev e o = some (.int .i64 0)) (hhi : ev e b = some (.int .i64 j)) : Ex P e ⟨some d, .slice xt x lo (some b) none, T, pos, af, none⟩ (.slice A ys.length c) := by
  obtain ⟨h0, h1, h2, rfl⟩ := cutI_some hsub
  have hlen : ((xs.take j.toNat).drop (0 : Int).toNat).length = j.toNat := by simp; omega
  rw [hlen]
  have h := Ex.cut (P := P) (T := T) (pos := pos) (af := af) (d := d) (lo := lo) (hi := some b) (i := 0) (j := j) hx ht hz (by cases lo <;> exact hlo) hhi h0 h1 (by omega)
  simpa [map_add0] using h
theorem Ex.pre3 {A : Option Addr} {c l z : Nat} {xs ys : List α} {xt et : TypeId} {x b m : Operand} {lo : Option Operand} {j q : Int} (hl : l ≤ c) (hsub : cutI xs 0 j = some ys) (hq : j ≤ q ∧ q ≤ (l : Int)) (hl0 : xs.length = l) (hx : ev e x = some (.slice A l c)) (ht : P.underlying xt = some (.slice et)) (hz : (P.info? et).map (·.size) = some z)
    (hlo : match lo with | none => (0 : Int) = 0 | some o => ev e o = some (.int .i64 0)) (hhi : ev e b = some (.int .i64 j)) (hm : ev e m = some (.int .i64 q)) : Ex P e ⟨some d, .slice xt x lo (some b) (some m), T, pos, af, none⟩ (.slice A ys.length q.toNat) := by
  obtain ⟨h0, h1, h2, rfl⟩ := cutI_some hsub
  have hlen : ((xs.take j.toNat).drop (0 : Int).toNat).length = j.toNat := by simp; omega
  rw [hlen]
  have h := Ex.cut3 (P := P) (T := T) (pos := pos) (af := af) (d := d) (lo := lo) (i := 0) (j := j) (q := q) hx ht hz (by cases lo <;> exact hlo) hhi hm h0 h1 hq.1 (by omega)
  simpa [map_add0] using h
/-- A piece whose cap is told: where nothing comes of it. -/
def cap3 (n : Nat) (j q : Int) : Option Unit := if j ≤ q ∧ q ≤ (n : Int) then some () else none
theorem cap3_some {n : Nat} {j q : Int} {u : Unit} (h : cap3 n j q = some u) : j ≤ q ∧ q ≤ (n : Int) := by
  unfold cap3 at h
  split at h
  · assumption
  · cases h
theorem Ex.sub3 {A : Option Addr} {c l z : Nat} {xs ys : List α} {xt et : TypeId} {x b m : Operand} {lo : Option Operand} {i j q : Int} (hl : l ≤ c) (hsub : cutI xs i j = some ys) (hq : j ≤ q ∧ q ≤ (l : Int)) (hl0 : xs.length = l) (hx : ev e x = some (.slice A l c)) (ht : P.underlying xt = some (.slice et)) (hz : (P.info? et).map (·.size) = some z)
    (hlo : match lo with | none => i = 0 | some o => ev e o = some (.int .i64 i)) (hhi : ev e b = some (.int .i64 j)) (hm : ev e m = some (.int .i64 q)) : Ex P e ⟨some d, .slice xt x lo (some b) (some m), T, pos, af, none⟩ (.slice (if q.toNat = i.toNat then A else A.map (·.add (i.toNat * z))) ys.length (q.toNat - i.toNat)) := by
  obtain ⟨h0, h1, h2, rfl⟩ := cutI_some hsub
  have hlen : ((xs.take j.toNat).drop i.toNat).length = j.toNat - i.toNat := by simp; omega
  rw [hlen]
  exact Ex.cut3 hx ht hz hlo hhi hm h0 h1 hq.1 (by omega)
theorem own_hdr {A : Option Addr} {a b l c k : Nat} (h : (Value.slice A a b).ownBlock = some k) : (Value.slice A l c).ownBlock = some k := by cases A <;> exact h
theorem own_room {τ : Ty α} {A : Option Addr} {c E l : Nat} {xs : List α} {cells : List Value} (hC : Cs τ ζ cells xs) (hl : xs.length = l) {h0 : Zp} (hp0 : (orow E τ.sz (.slice A l c) l cells).p h0) : l ≤ c ∧ True := by
  subst hl
  exact ⟨(own_slh hC rfl hp0).1, trivial⟩
theorem own_pre {τ : Ty α} {A : Option Addr} {c E l : Nat} {xs ys : List α} {cells : List Value} {j : Int} (hC : Cs τ ζ cells xs) (hl : xs.length = l) {h0 : Zp} (hp0 : (orow E τ.sz (.slice A l c) l cells).p h0) (hsub : cutI xs 0 j = some ys) :
    l ≤ c ∧ ∀ h, (orow E τ.sz (.slice A l c) l cells).p h → SlH τ ζ h A c ys := by
  refine ⟨(own_room hC hl hp0).1, fun h hp => ?_⟩
  obtain ⟨A', c', hA, ⟨hc, _⟩, hv⟩ := own_sub hC hl hp hsub
  have h1 := hv h hp
  have e1 : A' = A := by rw [hA]; simp [map_add0]
  have e2 : c' = c := by rw [hc]; simp
  rw [e1, e2] at h1
  exact h1
theorem cut_len {xs ys : List α} {j q l : Int} (h : cutI xs 0 j = some ys) (hq : j ≤ q ∧ q ≤ l) : ys.length ≤ q.toNat := by
  obtain ⟨h0, h1, h2, rfl⟩ := cutI_some h
  have : ((xs.take j.toNat).drop (0 : Int).toNat).length = j.toNat := by simp; omega
  omega
theorem cut_le {xs ys : List α} {j : Int} {l : Nat} (h : cutI xs 0 j = some ys) (hl : xs.length = l) : ys.length ≤ l := by
  obtain ⟨h0, h1, h2, rfl⟩ := cutI_some h
  have : ((xs.take j.toNat).drop (0 : Int).toNat).length = j.toNat := by simp; omega
  omega
theorem cut_cap {q j : Int} {l c : Nat} (hq : j ≤ q ∧ q ≤ (l : Int)) (hl : l ≤ c) : q.toNat ≤ c := by omega
theorem cut_all {xs ys : List α} {i j : Int} (h : cutI xs i j = some ys) : 0 ≤ i ∧ i ≤ j ∧ j ≤ xs.length ∧ (ys.length : Int) = j - i := by
  obtain ⟨h0, h1, h2, rfl⟩ := cutI_some h
  exact ⟨h0, h1, h2, by simp; omega⟩
theorem apB_len {b : Nat} {xs ys zs : List α} (h : apB b xs ys = some zs) : zs.length = xs.length + ys.length := by
  obtain ⟨_, rfl⟩ := apB_some h
  simp
theorem Sl.nil_of {τ : Ty α} {A : Option Addr} {c : Nat} {xs : List α} (h : Sl τ ζ A c xs) (hA : A = none) : xs = [] := by
  subst hA
  obtain ⟨_, _, cells, _, h4⟩ := h
  rcases h4 with h4 | ⟨g, o, h4, _⟩
  · exact h4
  · cases h4
theorem nilN {p : Prop} [Decidable p] (h : (!decide p) = false) : p := by simpa using h
theorem Ex.eqlSN {xt yt : TypeId} {x y : Operand} {A : Option Addr} {l c : Nat} {et : TypeId} (hx : ev e x = some (.slice A l c)) (hy : ev e y = some (.slice none 0 0)) (ht : P.underlying xt = some (.slice et)) :
    Ex P e ⟨some d, .binOp .eql xt x y yt, T, pos, af, none⟩ (.bool (decide (A = none))) := fun cc hc w => by
  have h1 := run_equal_slice_nil (P := P) w xt et A l c ht
  have h2 : A.isNone = decide (A = none) := by cases A <;> simp
  simp only [execOp, hc _ _ hx, hc _ _ hy, binOp, eqGuard]
  simp [h1, h2]
theorem Ex.neqSN {xt yt : TypeId} {x y : Operand} {A : Option Addr} {l c : Nat} {et : TypeId} (hx : ev e x = some (.slice A l c)) (hy : ev e y = some (.slice none 0 0)) (ht : P.underlying xt = some (.slice et)) :
    Ex P e ⟨some d, .binOp .neq xt x y yt, T, pos, af, none⟩ (.bool (!decide (A = none))) := fun cc hc w => by
  have h1 := run_equal_slice_nil (P := P) w xt et A l c ht
  have h2 : A.isNone = decide (A = none) := by cases A <;> simp
  simp only [execOp, hc _ _ hx, hc _ _ hy, binOp, eqGuard]
  simp [h1, h2]
/-- A row is cut to its front. -/
theorem St.cutRow {τ : Ty α} {A : Option Addr} {c c' l E : Nat} {xs ys : List α} {cells : List Value} {j : Int} (i : Nat) (hst : Ht w0 H w) (hi : H[i]? = some (orow E τ.sz (.slice A l c) l cells)) (hC : Cs τ ζ cells xs) (hl : xs.length = l) (hsub : cutI xs 0 j = some ys) (hc : ys.length ≤ c') (hc' : c' ≤ c) :
    Cs τ ζ (cells.take (ys.length * τ.sz)) ys ∧ Ht w0 (H.set i (orow E τ.sz (.slice A ys.length c') ys.length (cells.take (ys.length * τ.sz)))) w := by
  obtain ⟨h0, h1, h2, rfl⟩ := cutI_some hsub
  have hlen : ((xs.take j.toNat).drop (0 : Int).toNat).length = j.toNat := by simp; omega
  rw [hlen] at hc ⊢
  refine ⟨by simpa using hC.take j.toNat, hst.upd i hi (Fr.refl _ _) ?_ (fun k hk => ⟨.inl (own_hdr hk), hst.lt hi (own_hdr hk)⟩)⟩
  obtain ⟨q1, q2, q3⟩ := hst.get hi
  have hjl : j.toNat * τ.sz ≤ l * τ.sz := Nat.mul_le_mul_right _ (by omega)
  refine ⟨by rw [List.length_take, q1]; omega, fun u hu => q2 u (List.mem_of_mem_take hu), ?_⟩
  rcases q3 with ⟨he, hl0⟩ | ⟨g, o, cap, cur, he, hg, hcl, hcm, hcs, ht⟩
  · cases he
    refine .inl ⟨?_, by omega⟩
    have : j.toNat = 0 := by omega
    have : c' = 0 := by omega
    subst this
    rw [show j.toNat = 0 by omega]
  · cases he
    refine .inr ⟨g, o, c', cur, rfl, hg, hc, by omega, ?_, ?_⟩
    · have := Nat.mul_le_mul_right τ.sz hc'
      omega
    · rw [← ht, List.take_take, Nat.min_eq_left hjl]
theorem append_value (t ty E : TypeId) (z : Value) (sz by_ : Nat) (ht : P.underlying t = some (.slice E)) (hinfo : (P.info? E).map (fun i => (i.zero, i.size, i.bytes)) = some (some z, sz, by_)) (hsz : 0 < sz)
    {A : Option Addr} {c : Nat} {s : Value} {l m : Nat} {xs news : List Value} (hv : (orow E sz (.slice A l c) l xs).p (hp w)) (hs : Rd w sz s m news) (hroom : l + m ≤ c) :
    ∃ w', (Builtin.append_ #[t, t] ty #[.slice A l c, s]).run P w = .ok (.slice A (l + m) c) w' := by
  obtain ⟨i, hi, hz, hsize, hby⟩ := info_parts hinfo
  obtain ⟨hs1, hs2, A2, c2, rfl, hc, hs3⟩ := hs
  obtain ⟨hv1, hv2, hv3⟩ := hv
  subst hsize hby
  rcases hs3 with ⟨rfl, rfl⟩ | ⟨ad, rfl, hspot, hcell⟩
  · have hn : news = [] := List.eq_nil_of_length_eq_zero (by simpa using hs1)
    rcases hv3 with ⟨he, rfl⟩ | ⟨g, o, cap, cur, he, hg, hcap, r⟩
    · cases he
      exact ⟨w, by simp [Builtin.append_, run_underlying ht, sizeOf, typeInfo, hi, Builtin.lenOf, Builtin.firstCells]⟩
    · cases he
      exact ⟨w, by simp [Builtin.append_, run_underlying ht, sizeOf, typeInfo, hi, Builtin.lenOf, Builtin.firstCells, hcap, storeCells]⟩
  · have hnews : ∀ j u, news[j]? = some u → w.cell? (ad.add j) = some u := fun j u hj => by
      have h0 : 0 < m := by
        rcases Nat.eq_zero_or_pos m with h0 | h0
        · rw [h0] at hs1
          have : news = [] := List.eq_nil_of_length_eq_zero (by simpa using hs1)
          rw [this] at hj; simp at hj
        · exact h0
      rw [addr_lit (hspot h0)]; exact hcell j u hj
    rcases hv3 with ⟨he, rfl⟩ | ⟨g, o, cap, cur, he, hg, hcap, hcm, hcs, htake⟩
    · cases he
      have hm : m = 0 := by omega
      subst hm
      have hn : news = [] := List.eq_nil_of_length_eq_zero (by simpa using hs1)
      exact ⟨w, by simp [Builtin.append_, run_underlying ht, sizeOf, typeInfo, hi, Builtin.lenOf, Builtin.firstCells, loadCells, loadCellsFrom]⟩
    · cases he
      have hg' : w.heap[g]? = some (.cells cur E (0, 0)) := hg
      have hfit : o + l * i.size + news.length ≤ cur.size := by
        rw [hs1, Nat.add_assoc, ← Nat.add_mul]
        have := Nat.mul_le_mul_right i.size hroom
        omega
      exact ⟨_, run_append_at (P := P) (w := w) t ty E i ht hi g o l c cur hg' ad m c2 news hs1 hnews hs2 hroom hfit⟩
/-- append to a row of one's own that has room. -/
theorem Ops.appIn {args : Array Operand} {tys : Array TypeId} {τ : Ty α} {A A2 : Option Addr} {c c2 E by_ : Nat} {x y : Operand} {t : TypeId} {z : Value} {xs ys zs : List α} {cells : List Value} (i : Nat) (hst : Ht w0 H w) {l l2 : Nat} (hi : H[i]? = some (orow E τ.sz (.slice A l c) l cells)) (hC : Cs τ ζ cells xs) (hl0 : xs.length = l) (hs : SlH τ ζ (hp w) A2 c2 ys) (hl2 : ys.length = l2)
    (hroom : l + l2 ≤ c) (hap : apB by_ xs ys = some zs) (ha : args = #[x, y]) (hty : tys = #[t, t]) (hx : ev e x = some (.slice A l c)) (hy : ev e y = some (.slice A2 l2 c2))
    (ht : P.underlying t = some (.slice E)) (hinfo : (P.info? E).map (fun i => (i.zero, i.size, i.bytes)) = some (some z, τ.sz, by_)) (hzs : z.cells.size = τ.sz) (hsz : 0 < τ.sz) (hb : 0 < by_) (hn : Nat.blt d n.size = true)
    (h : ∀ cells' w', Cs τ ζ cells' zs → zs.length ≤ c → Ht w0 (H.set i (orow E τ.sz (.slice A zs.length c) zs.length cells')) w' → Ops P n Qf k ops rest ((d, .slice A zs.length c) :: e) w') : Ops P n Qf k ops (⟨some d, .call ⟨.builtin .append, args, tys⟩, T, pos, af, none⟩ :: rest) e w := by
  subst hl0 hl2 ha hty
  obtain ⟨hbd, rfl⟩ := apB_some hap
  obtain ⟨news, hC2, hrd⟩ := hs.rd
  have h63 : xs.length + ys.length ≤ maxLen := by
    have : xs.length + ys.length ≤ (xs.length + ys.length) * by_ := Nat.le_mul_of_pos_right _ hb
    simp only [maxLen]; omega
  obtain ⟨v', w', hr, h1, h2, h3, h4⟩ := run_append_row (P := P) (w := w) t T E z τ.sz by_ ht hinfo hzs hsz (hst.get hi) hrd h63 hbd (fun k hk => hst.lt hi hk)
  obtain ⟨w2, hr2⟩ := append_value (P := P) (w := w) t T E z τ.sz by_ ht hinfo hsz (hst.get hi) hrd hroom
  rw [hr] at hr2
  cases hr2
  rw [← List.length_append] at h1 hr h3
  rw [List.length_append] at h
  refine Ops.val (w' := w') rfl rfl hn (fun c hc => ?_) (h (cells ++ news) w' (hC.append hC2) (by omega) (by rw [← List.length_append]; exact hst.upd i hi h2 h1 h3))
  simp [execOp, hc _ _ hx, hc _ _ hy, resolve, invoke, builtin, hr]
theorem set_self_of {β : Type} {H : List β} {i : Nat} {R : β} (hi : H[i]? = some R) : H.set i R = H := by
  apply List.ext_getElem?
  intro j
  rw [List.getElem?_set]
  split
  · rename_i he
    subst he
    split
    · exact hi.symm
    · rename_i hlt
      rw [List.getElem?_eq_none (by omega)] at hi
      cases hi
  · rfl
theorem Ops.valU {o : Oper} {v : Value} (hg : o.guard = none) (hd : o.dst = none)
    (hrun : ∀ ρ : Operand → Value, (∀ x v, ev e x = some v → ρ x = v) → (execOp ρ o).run P w = .ok (.value v) w') (h : Ops P n Qf k ops rest e w') (hdf : ∀ c, o.op ≠ .defer c := by intro c h; cases h) : Ops P n Qf k ops (o :: rest) e w := by
  intro a ha
  unfold wpListIn
  rw [if_pos (by simp [Region.wanted, hg])]
  refine ⟨fun _ _ => trivial, ?_⟩
  rw [Oper.semAt_eq _ _ _ hdf, hrun a.eval (fun x v hx => ha.eval hx), Oper.uponIn_value, hd]
  exact h _ ha
/-- clear of what lies behind a row of one's own. -/
theorem Ops.clearT {args : Array Operand} {tys : Array TypeId} {A B : Option Addr} {c cb E l sz m : Nat} {x : Operand} {t : TypeId} {z : Value} {cells : List Value} (i : Nat) (hst : Ht w0 H w) (hi : H[i]? = some (orow E sz (.slice A l c) l cells)) (hB : B = (if c = l then A else A.map (·.add (l * sz)))) (hroom : l + m ≤ c) (ha : args = #[x]) (hty : tys = #[t])
    (hx : ev e x = some (.slice B m cb)) (ht : P.underlying t = some (.slice E)) (hz : (P.info? E).map (·.zero) = some (some z)) (hzs : z.cells.size = sz) (h1 : ∀ u ∈ z.cells.toList, u.oneCell' = true)
    (h : ∀ w', Ht w0 H w' → Ops P n Qf k ops rest e w') : Ops P n Qf k ops (⟨none, .call ⟨.builtin .clear, args, tys⟩, T, pos, af, none⟩ :: rest) e w := by
  subst ha hty
  have hset : H.set i (orow E sz (.slice A l c) l cells) = H := set_self_of hi
  by_cases hm : m = 0
  · subst hm
    refine Ops.valU (w' := w) (v := .tuple #[]) rfl rfl (fun cc hcc => ?_) (h w hst)
    cases B <;> simp [execOp, hcc _ _ hx, resolve, invoke, builtin, Builtin.clear_, run_underlying ht]
  · obtain ⟨q1, q2, q3⟩ := hst.get hi
    rcases q3 with ⟨he, rfl⟩ | ⟨g, o, cap, cur, he, hg, hcl, hcm, hcs, htk⟩
    · cases he
      omega
    · cases he
      rw [if_neg (by omega)] at hB
      have hb : B = some ⟨g, o + l * sz, none⟩ := by rw [hB]; simp [addr_lit]
      subst hb
      have hg' : w.heap[g]? = some (.cells cur E (0, 0)) := hg
      obtain ⟨vs, hvs⟩ : ∃ vs, vs = (Builtin.zeroCells z.cells m).toList := ⟨_, rfl⟩
      have hvl : vs.length = m * sz := by rw [hvs, Array.length_toList, size_zeroCells, hzs]
      have hfit : o + l * sz + vs.length ≤ cur.size := by
        rw [hvl, Nat.add_assoc, ← Nat.add_mul]
        have := Nat.mul_le_mul_right sz hroom
        omega
      have hv1 : ∀ u ∈ vs, u.oneCell' = true := by
        intro u hu
        rw [hvs] at hu
        simp only [Builtin.zeroCells, Array.toList_map, List.mem_map] at hu
        obtain ⟨j, hj, rfl⟩ := hu
        have hj' : j < m * z.cells.size := by simpa using hj
        have hpos : 0 < z.cells.size := by
          rcases Nat.eq_zero_or_pos z.cells.size with h0 | h0
          · rw [h0] at hj'; omega
          · exact h0
        have hlt : j % z.cells.size < z.cells.size := Nat.mod_lt _ hpos
        rw [getElem!_pos z.cells _ hlt]
        exact h1 _ (by simp)
      have hrun := run_storeCells_at (P := P) g (o + l * sz) E vs 0 cur w hg' hfit hv1
      rw [Nat.add_zero] at hrun
      obtain ⟨cur', hcur'⟩ : ∃ c', c' = (cur.toList.take (o + l * sz) ++ vs ++ cur.toList.drop (o + l * sz + vs.length)).toArray := ⟨_, rfl⟩
      have hzv : (zeroValue E).run P w = .ok z w := by
        obtain ⟨i, hi, hzz⟩ := Option.map_eq_some_iff.1 hz
        simp [zeroValue, typeInfo, hi, hzz]
      refine Ops.valU (w' := w.setRow g cur') (v := .tuple #[]) rfl rfl (fun cc hcc => ?_) (h _ ?_)
      · obtain ⟨m', rfl⟩ : ∃ m', m = m' + 1 := ⟨m - 1, by omega⟩
        rw [hvs] at hrun
        rw [hcur', hvs]
        simp [execOp, hcc _ _ hx, resolve, invoke, builtin, Builtin.clear_, run_underlying ht, hzv, hrun]
      · rw [← hset]
        refine hst.upd i hi ⟨rfl, rfl, rfl, by simp, fun k hk hne => setRow_other w g k _ (fun he => hne (by simp [orow, Value.ownBlock, he]))⟩ ?_ (fun k hk => ⟨.inl hk, by have := hst.lt hi hk; simpa using this⟩)
        refine ⟨q1, q2, .inr ⟨g, o, c, cur', rfl, setRow_heap w g cur _ E (0, 0) hg', hcl, hcm, ?_, ?_⟩⟩
        · rw [hcur']; simp only [List.size_toArray, List.length_append, List.length_take, List.length_drop, Array.length_toList]; omega
        · rw [hcur']
          simp only []
          have e0 : o ≤ (cur.toList.take (o + l * sz)).length := by simp; omega
          rw [List.append_assoc, List.drop_append_of_le_length e0, List.drop_take]
          have e1 : o + l * sz - o = l * sz := by omega
          rw [e1, htk, List.take_append_of_le_length (by omega), List.take_of_length_le (by omega)]
end
end Go.Proofs.YtiekoeapmhhjbaaGreatDoor.Sx
